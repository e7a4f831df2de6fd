import Derived.Test.YtaccjdbbkmhanaaGreatDoorM30
import Derived.Test.YtaccjdbbkmhanaaGreatDoorM29
import Derived.Carry
import Derived.Test.YtaccjdbbkmhanaaGreatDoorM28
import Derived.Test.YtaccjdbbkmhanaaGreatDoorM9
namespace Go.Proofs.YtaccjdbbkmhanaaGreatDoor
namespace Big
open Go.RowKit
def AddPost (B g b:Nat) (ns:List Nd) (nv:Value) (e:Ex) (w:World) (r:Ending) (w':World):Prop:=
 ∃nv',r= .returned (.tuple #[.int .i64 ((addG ns e).1:Int),.int .i64 0])∧KG g b nv nv' w w'∧GrP B g b w' (addG ns e).2 nv'
set_option maxHeartbeats 4000000 in
set_option maxRecDepth 100000 in
theorem add_graph (B g b:Nat) (w:World) (ns:List Nd) (nv v:Value) (e:Ex) (h:GrP B g b w ns nv) (hv:NdFar g b nv w v (flat 0 e)) (hgd:e.Good) (hsz:e.size≤200) (hdp:e.depth≤40) (hm:MaxV w) (hroom:ns.length+e.size≤4096):
  Calls Tryz.prog 11 #[.pointer (some ⟨g,0,none⟩),v] w (AddPost B g b ns nv e w):=by
 have HVA:=Lib.hid (pvalid_any w v (flat 0 e) hv.read (by rw [flat_len];omega) (flat_text e hgd 0) hm)
 rw [validP_flat e hgd.well.1,hgd.well.2,decide_eq_true ⟨hsz,hdp⟩] at HVA
 have HG:=Lib.hid h
 have HV:=Lib.hid hv
 have HM:=Lib.hid hm
 have HMK:=Lib.hid (run_makeN e.size (by omega))
 obtain ⟨n,hn⟩:∃n,n=e.size:=⟨_,rfl⟩
 have hfl:=flat_len e 0
 obtain ⟨A1,c1,rfl,_⟩:=hv
 rw [hfl,←hn] at HVA HV ⊢
 rw [←hn] at HMK
 have HN:=Lib.hid hn
 have HFL:=Lib.hid hfl
 have hn1:1≤n:=by rw [hn];exact e.size_pos
 have hn2:n≤200:=by omega
 obtain ⟨A,c,rfl⟩:=h.row.shape
 have HGD:=Lib.hid hgd
 have HRM:=Lib.hid hroom
 clear h hm hn hfl hgd hsz hdp hroom
 go_enter Tryz.func11,Tryz.ntmps11
 go_wp2_with fail
 refine HVA.out.mono ?_
 rintro r w1 ⟨rfl,hx1⟩
 have HX1:=Lib.hid hx1
 obtain ⟨k0,k1,f0,f1,hgz⟩:=(HG.out.keep hx1).blk.twoG
 have hmk:=HMK.out w1
 clear hx1
 have hw1:∀i:Nat,i<n→IntKind.i64.wrap ((i:Int)+1)=(i:Int)+1:=fun i hi=>IntWalk.i64_in _ (by omega)
 have HW1:=Lib.hid hw1
 clear hw1
 go_wp2_with fail
 go_loopw [27] (fun s27 wr=>∃i:Nat,i≤n∧s27= .int .i64 (i:Int)∧AddInv B g b w1.heap.size ns (.slice A ns.length c) e (.slice A1 n c1) w i wr) (fun s27 _=>n-(intOf s27).toNat)
 case atStart=>
  have h0:=AddInv.start HG.out HV.out HX1.out HM.out
  rw [←HN.out] at h0
  exact ⟨0,Nat.zero_le _,rfl,h0⟩
 case round=>
  obtain ⟨i,hi,rfl,hinv⟩:=hrel
  by_cases hlt:i<n
  ·obtain ⟨nv1,hkg,hgr,hblk,hfar,m1,m2,m3,m4,hmv,m5⟩:=hinv
   have hie:i<e.size:=by rw [←HN.out];exact hlt
   have hl:i<(flat 0 e).length:=by rw [flat_len];exact hie
   have hfg:=FG.at HG.out.ok HGD.out i (Nat.le_of_lt hie)
   have hok:=flat_ndOk e HGD.out 0 i _ (List.getElem?_eq_getElem hl)
   rw [Nat.zero_add] at hok
   have hlift:=liftG_ok hfg hok
   have hbig:=hfg.big
   have hlen:=hfg.len
   have hlo:=HG.out.lo
   have hgw:=HG.out.lt
   have HNX:=Lib.hid (fun nv2 w1' w2' (hx:Ext _ w1') hk hp hp0=>AddInv.next (B:=B) (nv2:=nv2) (w1:=w1') (w2:=w2') HGD.out HG.out.ok hie hl hkg hfar hblk m1 m2 m3 m4 m5 hmv hx hk (by omega) hp hp0)
   have HPU:=Lib.hid (fun W h hm=>gput_any B g b W _ nv1 h _ hlift hm (by have:=HRM.out;omega))
   obtain ⟨A2,c2,he2,hc2⟩:=hfar
   obtain ⟨q,o,hA,hq,p2,p3,p4,hcells⟩:=hc2 (by omega)
   obtain ⟨y0,y1,y2,y3,y4⟩:=hcells i hl
   simp only [Value.slice.injEq] at he2
   obtain ⟨rfl,hq1,rfl⟩:=he2
   clear hq1
   subst hA
   have hil:(i:Int)<(n:Int):=by omega
   have hi0:(0:Int)≤(i:Int):=by omega
   have hwi:=HW1.out i hlt
   have HNV:=Lib.hid p4
   clear hc2 hcells hlift hbig p4
   generalize hst:foldG ([],ns) (List.take i (flat 0 e))=st at *
   clear hst
   obtain ⟨ids,gs⟩:=st
   simp only at hgr hblk hlen HNX HPU hfg
   rw [←HN.out] at hblk
   have hget:∀j,j<i→(cellsN (ids++List.replicate (n-i) 0))[j]? =some (.int .i64 ((ids.getD j 0:Nat):Int)):=fun j hj=>by
    rw [get_cellsN _ _ (by rw [List.length_append];omega),getD_before _ _ (by omega)]
   have hgi:(cellsN (ids++List.replicate (n-i) 0))[i]? =some (.int .i64 (((ids++List.replicate (n-i) 0).getD i 0:Nat):Int)):=get_cellsN _ _ (by rw [List.length_append,List.length_replicate];omega)
   generalize (ids++List.replicate (n-i) 0).getD i 0=old at *
   generalize cellsN (ids++List.replicate (n-i) 0)=CC at *
   generalize (flat 0 e)[i]=x at *
   have HBK:=Lib.hid hblk
   have HGR:=Lib.hid hgr
   have HGT:=Lib.hid hget
   have HGI:=Lib.hid hgi
   have HMV:=Lib.hid hmv
   have HKG:=Lib.hid hkg
   have HM1:=Lib.hid m1
   have HM2:=Lib.hid m2
   have HM3:=Lib.hid m3
   clear hblk hgr hget hgi hmv hkg m1 m2 m3 m5 hfg
   rcases hok with ⟨k,t,rfl,ho⟩|⟨k,nn,j,rfl,ho,hj⟩|⟨k,j,jq,rfl,hk,hj,hjq⟩
   ·have hk4:(k:Int)=1∨(k:Int)=2∨(k:Int)=3∨(k:Int)=4:=by rcases ho with ⟨h,_⟩|⟨h,_⟩|⟨h,_⟩<;>omega
    have hlf:liftG ids ⟨(k:Int),0,0,0,t⟩=⟨(k:Int),0,0,0,t⟩:=by
     unfold liftG
     rw [if_neg (by simp only;omega),if_neg (by simp only;omega)]
    rw [hlf] at HPU HNX
    have HK4:=Lib.hid hk4
    clear hk4 hlf ho
    simp only [ndV] at HPU
    simp only at y0 y1 y2 y3 y4
    generalize hkk:(k:Int)=kk at *
    obtain ⟨s,hs⟩:∃s:ByteArray,s=⟨(t:List UInt8).toArray⟩:=⟨_,rfl⟩
    have hst:str t= .string s:=by rw [hs];rfl
    rw [hst] at y4 HPU
    clear hs hst hkk
    have HND:=Lib.hid (Blk.new wr 50 #[.int .i64 kk,.int .i64 0,.int .i64 0,.int .i64 0,.string s])
    have HX7:=Lib.hid ((Ext.refl wr).alloc (.cells #[.int .i64 kk,.int .i64 0,.int .i64 0,.int .i64 0,.string s] 50))
    obtain ⟨w7,hw7⟩:∃w7,w7=wr.alloc (.cells #[.int .i64 kk,.int .i64 0,.int .i64 0,.int .i64 0,.string s] 50):=⟨_,rfl⟩
    rw [←hw7] at HND HX7
    obtain ⟨q0,q1,q2,q3,q4⟩:=HND.out.five
    go_upto_region 8 with fail
    rw [←hw7]
    clear hw7 y0 y1 y2 y3 y4
    go_wp2_with fail
    refine (operands_leaf w7 kk 0 0 0 s HK4.out).mono ?_
    rintro r w8 ⟨rfl,hx8⟩
    have HX8:=Lib.hid (HX7.out.trans hx8)
    have HN8:=Lib.hid (HND.out.ext hx8)
    clear q0 q1 q2 q3 q4 hx8
    obtain ⟨q0,q1,q2,q3,q4⟩:=HN8.out.five
    go_wp2_with fail
    refine (HPU.out w8 (HGR.out.keep HX8.out) (HMV.out.ext HX8.out)).mono ?_
    rintro r w10 ⟨nv2,rfl,hk10,hg10⟩
    have hm10:=((KG.of_ext HX8.out).trans hk10).blk HBK.out HM1.out HM2.out HM3.out
    have z0:=(hm10.cell i).trans HGI.out
    have z1:=hm10.frozen i
    have HFIN:=Lib.hid (HNX.out nv2 w8 w10 HX8.out hk10 hg10 (HGR.out.keep HX8.out))
    clear hm10 hk10 hg10 q0 q1 q2 q3 q4
    generalize (putG gs _).1=pid at *
    go_wp2_with fail
    go_roundw
    case rel=>exact ⟨i+1,hlt,by go_num,HFIN.out⟩
    case measure=>simp [intOf];omega
   ·have hk4:(k:Int)=5∨(k:Int)=10∨(k:Int)=11∨(k:Int)=12∨(k:Int)=13∨(k:Int)=14∨(k:Int)=15∨(k:Int)=16:=by have:=ho.1;omega
    have hlf:liftG ids ⟨(k:Int),(j:Int),0,nn,[]⟩=⟨(k:Int),((ids.getD j 0:Nat):Int),0,nn,[]⟩:=by
     unfold liftG
     rw [if_pos (by simp only;omega),if_neg (by simp only;omega)]
     rfl
    rw [hlf] at HPU HNX
    have HK4:=Lib.hid hk4
    have HGJ:=Lib.hid (HGT.out j hj)
    have hj1:(j:Int)<(n:Int):=by omega
    have hj0:(0:Int)≤(j:Int):=by omega
    clear hk4 hlf ho hj
    generalize ((ids.getD j 0:Nat):Int)=va at *
    simp only [ndV] at HPU
    simp only at y0 y1 y2 y3 y4
    generalize hkk:(k:Int)=kk at *
    obtain ⟨s,hs⟩:∃s:ByteArray,s=⟨([]:List UInt8).toArray⟩:=⟨_,rfl⟩
    have hst:str []= .string s:=by rw [hs];rfl
    rw [hst] at y4 HPU
    clear hs hst hkk
    have HND:=Lib.hid (Blk.new wr 50 #[.int .i64 kk,.int .i64 (j:Int),.int .i64 0,.int .i64 nn,.string s])
    have HX7:=Lib.hid ((Ext.refl wr).alloc (.cells #[.int .i64 kk,.int .i64 (j:Int),.int .i64 0,.int .i64 nn,.string s] 50))
    obtain ⟨w7,hw7⟩:∃w7,w7=wr.alloc (.cells #[.int .i64 kk,.int .i64 (j:Int),.int .i64 0,.int .i64 nn,.string s] 50):=⟨_,rfl⟩
    rw [←hw7] at HND HX7
    obtain ⟨q0,q1,q2,q3,q4⟩:=HND.out.five
    go_upto_region 8 with fail
    rw [←hw7]
    clear hw7 y0 y1 y2 y3 y4
    go_wp2_with fail
    refine (operands_un w7 kk (j:Int) 0 nn s HK4.out).mono ?_
    rintro r w8 ⟨x8,rfl,_,_,_,hx8⟩
    have HX8:=Lib.hid (HX7.out.trans hx8)
    have HN8:=Lib.hid (HND.out.ext hx8)
    clear q0 q1 q2 q3 q4 hx8
    obtain ⟨q0,q1,q2,q3,q4⟩:=HN8.out.five
    have hwr:w1.heap.size<wr.heap.size:=HBK.out.lt
    have hm8:=HBK.out.ext HX8.out
    have v0:=(hm8.cell j).trans HGJ.out
    have f1:=HN8.out.frozen 1
    have HN9:=Lib.hid (HN8.out.set_ 1 (.int .i64 va))
    have HX9:=Lib.hid (HX8.out.setCell (p:=⟨wr.heap.size,1,none⟩) (Nat.le_refl _) (.int .i64 va))
    obtain ⟨r0,r1,r2,r3,r4⟩:=Blk.five HN9.out
    go_wp2_with fail
    refine (HPU.out (w8.setCell ⟨wr.heap.size,1,none⟩ (.int .i64 va)) (HGR.out.keep HX9.out) (HMV.out.ext HX9.out)).mono ?_
    rintro r w10 ⟨nv2,rfl,hk10,hg10⟩
    have hm10:=((KG.of_ext HX9.out).trans hk10).blk HBK.out HM1.out HM2.out HM3.out
    have z0:=(hm10.cell i).trans HGI.out
    have z1:=hm10.frozen i
    have HFIN:=Lib.hid (HNX.out nv2 (w8.setCell ⟨wr.heap.size,1,none⟩ (.int .i64 va)) w10 HX9.out hk10 hg10 (HGR.out.keep HX9.out))
    clear hm10 hk10 hg10 q0 q1 q2 q3 q4
    generalize (putG gs _).1=pid at *
    go_wp2_with fail
    go_roundw
    case rel=>exact ⟨i+1,hlt,by go_num,HFIN.out⟩
    case measure=>simp [intOf];omega
   ·have hk4:(k:Int)=6∨(k:Int)=7∨(k:Int)=8∨(k:Int)=9:=by omega
    have hlf:liftG ids ⟨(k:Int),(j:Int),(jq:Int),0,[]⟩=⟨(k:Int),((ids.getD j 0:Nat):Int),((ids.getD jq 0:Nat):Int),0,[]⟩:=by
     unfold liftG
     rw [if_pos (by simp only;omega),if_pos (by simp only;omega)]
     rfl
    rw [hlf] at HPU HNX
    have HK4:=Lib.hid hk4
    have HGJ:=Lib.hid (HGT.out j hj)
    have HGQ:=Lib.hid (HGT.out jq hjq)
    have hj1:(j:Int)<(n:Int):=by omega
    have hj0:(0:Int)≤(j:Int):=by omega
    have hq1:(jq:Int)<(n:Int):=by omega
    have hq0:(0:Int)≤(jq:Int):=by omega
    clear hk4 hlf hk hj hjq
    generalize ((ids.getD j 0:Nat):Int)=va at *
    generalize ((ids.getD jq 0:Nat):Int)=vb at *
    simp only [ndV] at HPU
    simp only at y0 y1 y2 y3 y4
    generalize hkk:(k:Int)=kk at *
    obtain ⟨s,hs⟩:∃s:ByteArray,s=⟨([]:List UInt8).toArray⟩:=⟨_,rfl⟩
    have hst:str []= .string s:=by rw [hs];rfl
    rw [hst] at y4 HPU
    clear hs hst hkk
    have HND:=Lib.hid (Blk.new wr 50 #[.int .i64 kk,.int .i64 (j:Int),.int .i64 (jq:Int),.int .i64 0,.string s])
    have HX7:=Lib.hid ((Ext.refl wr).alloc (.cells #[.int .i64 kk,.int .i64 (j:Int),.int .i64 (jq:Int),.int .i64 0,.string s] 50))
    obtain ⟨w7,hw7⟩:∃w7,w7=wr.alloc (.cells #[.int .i64 kk,.int .i64 (j:Int),.int .i64 (jq:Int),.int .i64 0,.string s] 50):=⟨_,rfl⟩
    rw [←hw7] at HND HX7
    obtain ⟨q0,q1,q2,q3,q4⟩:=HND.out.five
    go_upto_region 8 with fail
    rw [←hw7]
    clear hw7 y0 y1 y2 y3 y4
    go_wp2_with fail
    refine (operands_bin w7 kk (j:Int) (jq:Int) 0 s HK4.out).mono ?_
    rintro r w8 ⟨x8,rfl,_,_,_,_,hx8⟩
    have HX8:=Lib.hid (HX7.out.trans hx8)
    have HN8:=Lib.hid (HND.out.ext hx8)
    clear q0 q1 q2 q3 q4 hx8
    obtain ⟨q0,q1,q2,q3,q4⟩:=HN8.out.five
    have hwr:w1.heap.size<wr.heap.size:=HBK.out.lt
    have hm8:=HBK.out.ext HX8.out
    have v0:=(hm8.cell j).trans HGJ.out
    have f1:=HN8.out.frozen 1
    have HN9:=Lib.hid (HN8.out.set_ 1 (.int .i64 va))
    have HX9:=Lib.hid (HX8.out.setCell (p:=⟨wr.heap.size,1,none⟩) (Nat.le_refl _) (.int .i64 va))
    obtain ⟨r0,r1,r2,r3,r4⟩:=Blk.five HN9.out
    have hm9:=HBK.out.ext HX9.out
    have v1:=(hm9.cell jq).trans HGQ.out
    have f2:=HN9.out.frozen 2
    have HN10:=Lib.hid (Blk.set_ HN9.out 2 (.int .i64 vb))
    have HX10:=Lib.hid (HX9.out.setCell (p:=⟨wr.heap.size,2,none⟩) (Nat.le_refl _) (.int .i64 vb))
    obtain ⟨t0,t1,t2,t3,t4⟩:=Blk.five HN10.out
    go_wp2_with fail
    refine (HPU.out ((w8.setCell ⟨wr.heap.size,1,none⟩ (.int .i64 va)).setCell ⟨wr.heap.size,2,none⟩ (.int .i64 vb)) (HGR.out.keep HX10.out) (HMV.out.ext HX10.out)).mono ?_
    rintro r w10 ⟨nv2,rfl,hk10,hg10⟩
    have hm10:=((KG.of_ext HX10.out).trans hk10).blk HBK.out HM1.out HM2.out HM3.out
    have z0:=(hm10.cell i).trans HGI.out
    have z1:=hm10.frozen i
    have HFIN:=Lib.hid (HNX.out nv2 ((w8.setCell ⟨wr.heap.size,1,none⟩ (.int .i64 va)).setCell ⟨wr.heap.size,2,none⟩ (.int .i64 vb)) w10 HX10.out hk10 hg10 (HGR.out.keep HX10.out))
    clear hm10 hk10 hg10 q0 q1 q2 q3 q4
    generalize (putG gs _).1=pid at *
    go_wp2_with fail
    go_roundw
    case rel=>exact ⟨i+1,hlt,by go_num,HFIN.out⟩
    case measure=>simp [intOf];omega
  ·obtain ⟨nv1,hkg,hgr,hblk,hfar,m1,m2,m3,m4,hmv,m5⟩:=hinv
   obtain ⟨more,hmore,hend⟩:=foldG_end e HGD.out ns
   have hin:i=more.length+1:=by have:=HN.out;omega
   have hnk:n=more.length+1:=by have:=HN.out;omega
   rw [List.take_of_length_le (by rw [flat_len];omega),hend] at hgr hblk
   rw [show e.size-i=0 by omega,List.replicate_zero,List.append_nil] at hblk
   simp only at hgr hblk
   have hcell:=(hblk.cell more.length).trans (get_cellsN _ _ (by simp))
   rw [getD_lastG _ _ rfl] at hcell
   have HKG:=Lib.hid hkg
   have HGR:=Lib.hid hgr
   clear hkg hgr hblk hfar m1 m2 m3 m4 hmv m5 hend hmore
   subst hin
   subst hnk
   generalize more.length=kz at *
   have hz1:IntKind.i64.wrap (((kz+1:Nat):Int)-1)=(kz:Int):=by rw [IntWalk.i64_in _ (by omega)];omega
   have hz2:IntKind.i64.wrap ((kz:Int)+1-1)=(kz:Int):=by rw [IntWalk.i64_in _ (by omega)];omega
   have hz3:IntKind.i64.wrap (kz:Int)=(kz:Int):=IntWalk.i64_in _ (by omega)
   have hz4:(kz:Int)<(kz:Int)+1:=by omega
   have hz5:(0:Int)≤(kz:Int):=by omega
   generalize hpid:(addG ns e).1=pid at *
   have HPID:=Lib.hid hpid
   clear hpid
   go_wp2_with fail
   go_ret2
   exact ⟨nv1,by rw [HPID.out];rfl,HKG.out,HGR.out⟩
end Big
end Go.Proofs.YtaccjdbbkmhanaaGreatDoor
namespace Go.Proofs.YtaccjdbbkmhanaaGreatDoor
namespace Big
open Go.RowKit
set_option maxRecDepth 100000 in
theorem gnew_any (w:World) (hm:MaxV w):
  Calls Tryz.prog 10 #[] w fun e w'=>∃g b,e= .returned (.pointer (some ⟨g,0,none⟩))∧GrP w.heap.size g b w' [] (.slice none 0 0)∧Ext w w':=by
 have hmm:=fun W=> @run_makeMap Tryz.prog 36 W
 have hlo:0<w.heap.size:=by
  obtain ⟨m,h⟩:=hm
  exact World.block_lt_of_cell? w _ h
 have hx1:Ext w (w.alloc (.map #[] 0)):=(Ext.refl w).alloc _
 have hx2:=hx1.alloc (.cells #[.slice none 0 0,.map (some w.heap.size)] 38)
 have HN:=Lib.hid (NMap.made w)
 have HX:=Lib.hid hx2
 have HB:=Lib.hid (Blk.new (w.alloc (.map #[] 0)) 38 #[.slice none 0 0,.map (some w.heap.size)])
 clear hx1 hx2 hm
 go_enter Tryz.func10,Tryz.ntmps10
 go_wp2_with fail
 go_ret
 refine ⟨_,w.heap.size,rfl,⟨?_,OwnNd.nil _ _,HN.out.kept (Below.heap_alloc _ _ _ HN.out.lt),by simp,Nat.le_refl _,SoundG.nil,by decide,hlo⟩,HX.out⟩
 have:=HB.out
 simp only [World.size_alloc] at this
 exact this
end Big
end Go.Proofs.YtaccjdbbkmhanaaGreatDoor
namespace Go.Proofs.YtaccjdbbkmhanaaGreatDoor
namespace Big
open Go.RowKit
set_option maxHeartbeats 4000000 in
set_option maxRecDepth 100000 in
theorem fits_bad (B g b:Nat) (w:World) (ns:List Nd) (nv:Value) (h:GrP B g b w ns nv) (a:Int) (h0:(ns.length:Int)≤a):
  Calls Tryz.prog 53 #[.pointer (some ⟨g,0,none⟩),.agg #[.int .i64 5,.int .i64 a,.int .i64 0,.int .i64 0,.string ⟨#[]⟩]] w fun e w'=>e= .returned (.bool false)∧Ext w w':=by
 obtain ⟨A,c,rfl⟩:=h.row.shape
 have HG:=Lib.hid h.blk
 clear h
 have HB1:=Lib.hid (Blk.new w 29 #[.pointer (some ⟨g,0,none⟩)])
 have HX1:=Lib.hid ((Ext.refl w).alloc (.cells #[.pointer (some ⟨g,0,none⟩)] 29))
 obtain ⟨w1,hw1⟩:∃w1,w1=w.alloc (.cells #[.pointer (some ⟨g,0,none⟩)] 29):=⟨_,rfl⟩
 have hs1:w1.heap.size=w.heap.size+1:=by rw [hw1];simp
 rw [←hw1] at HB1 HX1
 have HB2:=Lib.hid (Blk.new w1 50 #[.int .i64 5,.int .i64 a,.int .i64 0,.int .i64 0,.string ⟨#[]⟩])
 have HX2:=Lib.hid ((Ext.refl w1).alloc (.cells #[.int .i64 5,.int .i64 a,.int .i64 0,.int .i64 0,.string ⟨#[]⟩] 50))
 obtain ⟨w2,hw2⟩:∃w2,w2=w1.alloc (.cells #[.int .i64 5,.int .i64 a,.int .i64 0,.int .i64 0,.string ⟨#[]⟩] 50):=⟨_,rfl⟩
 have hs2:w2.heap.size=w.heap.size+2:=by rw [hw2];simp [hs1]
 rw [←hw2,hs1] at HB2
 rw [←hw2] at HX2
 have HX:=Lib.hid (HX1.out.trans HX2.out)
 obtain ⟨q0,q1,q2,q3,q4⟩:=HB2.out.five
 go_enter Tryz.func53,Tryz.ntmps53
 go_upto_region 1 with fail
 rw [←hw1,←hw2]
 clear hw1 hw2
 go_wp2_with fail
 refine (operands_un w2 5 a 0 0 ⟨#[]⟩ (by decide)).mono ?_
 rintro e w3 ⟨x3,rfl,hc0,_,hl3,hx3⟩
 have HX3:=Lib.hid hx3
 have HB3:=Lib.hid (HB2.out.ext hx3)
 have HCF:=Lib.hid (contains_any w.heap.size g ns.length c x3 1 A [a] w3 ((hx3.trans (Ext.refl _)).keep ((HB1.out.ext HX2.out).cell 0)) (((HX.out.trans hx3).cell HG.out.lt).trans (HG.out.cell 0)) (fun j hj=>by
  match j,hj with
  |0,_=>exact hc0) (by simp))
 clear hx3 q0 q1 q2 q3 q4 hc0
 obtain ⟨q0,q1,q2,q3,q4⟩:=HB3.out.five
 go_wp2_with fail
 refine HCF.out.mono ?_
 rintro e w4' ⟨rfl,y4,rfl⟩
 have hany:[a].any (outN ns.length)=true:=by
  simp only [List.any_cons,List.any_nil,Bool.or_false,outN,Bool.or_eq_true,decide_eq_true_eq]
  exact .inr h0
 rw [hany]
 clear hany
 go_wp2_with fail
 go_ret
 exact ⟨rfl,(HX.out.trans HX3.out).drewN _⟩
set_option maxHeartbeats 4000000 in
set_option maxRecDepth 100000 in
theorem put_bad (B g b:Nat) (w:World) (ns:List Nd) (nv:Value) (h:GrP B g b w ns nv) (a:Int) (h0:(ns.length:Int)≤a):
  Calls Tryz.prog 26 #[.pointer (some ⟨g,0,none⟩),.agg #[.int .i64 5,.int .i64 a,.int .i64 0,.int .i64 0,.string ⟨#[]⟩]] w fun e w'=>e= .returned (.tuple #[.int .i64 0,.int .i64 1])∧Ext w w':=by
 have HFI:=Lib.hid (fun W h=>fits_bad B g b W ns nv h a h0)
 have HG:=Lib.hid h
 clear h h0
 have HB1:=Lib.hid (Blk.new w 50 #[.int .i64 5,.int .i64 a,.int .i64 0,.int .i64 0,.string ⟨#[]⟩])
 have HX1:=Lib.hid ((Ext.refl w).alloc (.cells #[.int .i64 5,.int .i64 a,.int .i64 0,.int .i64 0,.string ⟨#[]⟩] 50))
 obtain ⟨w1,hw1⟩:∃w1,w1=w.alloc (.cells #[.int .i64 5,.int .i64 a,.int .i64 0,.int .i64 0,.string ⟨#[]⟩] 50):=⟨_,rfl⟩
 rw [←hw1] at HB1 HX1
 obtain ⟨q0,q1,q2,q3,q4⟩:=HB1.out.five
 go_enter Tryz.func26,Tryz.ntmps26
 go_upto_region 1 with fail
 rw [←hw1]
 clear hw1
 go_wp2_with fail
 refine (HFI.out w1 (HG.out.keep HX1.out)).mono ?_
 rintro e w2 ⟨rfl,hx2⟩
 have HX2:=Lib.hid (HX1.out.trans hx2)
 clear hx2
 go_wp2_with fail
 go_ret2
 exact ⟨rfl,HX2.out⟩
end Big
end Go.Proofs.YtaccjdbbkmhanaaGreatDoor
namespace Go.Proofs.YtaccjdbbkmhanaaGreatDoor
namespace Big
open Go.RowKit
structure RdR (g:Nat) (w:World) (ts:List Tok) (a:Nat) (bad:Bool) (ns:List Nd) (lg:Bool) (tv nv:Value):Prop where
 blk:Blk w g 90 #[tv,.int .i64 (a:Int),.bool bad,nv,.bool lg]
 row:OwnNd (g+1) w nv ns
 tok:TokAt g w tv ts
 few:ns.length≤a
 le:a≤ts.length
 max:ts.length≤1000000
section
variable {g:Nat} {w w':World} {ts:List Tok} {a:Nat} {bad lg:Bool} {ns:List Nd} {tv nv:Value}
theorem RdR.keep (h:RdR g w ts a bad ns lg tv nv) (hx:Ext w w'):RdR g w' ts a bad ns lg tv nv:=
 ⟨h.blk.ext hx,h.row.ext hx,h.tok.below (Below.mono hx (Nat.le_of_lt h.blk.lt)),h.few,h.le,h.max⟩
theorem Blk.five' {t:TypeId} {c1 c2 c3 c4 c5:Value} (h:Blk w g t #[c1,c2,c3,c4,c5]):(w.cell? ⟨g,0,none⟩=some c1∧w.cell? ⟨g,1,none⟩=some c2∧w.cell? ⟨g,2,none⟩=some c3∧w.cell? ⟨g,3,none⟩=some c4∧w.cell? ⟨g,4,none⟩=some c5)∧(w.frozen? ⟨g,1,none⟩=false∧w.frozen? ⟨g,2,none⟩=false∧w.frozen? ⟨g,3,none⟩=false∧w.frozen? ⟨g,4,none⟩=false)∧g<w.heap.size:=
 ⟨⟨h.cell 0,h.cell 1,h.cell 2,h.cell 3,h.cell 4⟩,⟨h.frozen 1,h.frozen 2,h.frozen 3,h.frozen 4⟩,h.lt⟩
theorem KR.set (h:Below g w w) (o:Nat) (u:Value):KR g nv nv w (w.setCell ⟨g,o,none⟩ u):=by
 have hb:Below g w (w.setCell ⟨g,o,none⟩ u):=Below.setCell h (p:=⟨g,o,none⟩) (Nat.le_refl _) _
 exact ⟨hb.os,hb.tape,hb.output,hb.size,fun k _ hk _=>Below.heap_setCell _ _ _ k hk,fun _ hj=> .inl hj⟩
theorem RdR.stepR (h:RdR g w ts a bad ns lg tv nv) (ha:a<ts.length):RdR g (w.setCell ⟨g,1,none⟩ (.int .i64 ((a:Int)+1))) ts (a+1) bad ns lg tv nv∧KR g nv nv w (w.setCell ⟨g,1,none⟩ (.int .i64 ((a:Int)+1))):=by
 have hk:KR g nv nv w (w.setCell ⟨g,1,none⟩ (.int .i64 ((a:Int)+1))):=KR.set (Below.refl g w) 1 _
 have hb:Below g w (w.setCell ⟨g,1,none⟩ (.int .i64 ((a:Int)+1))):=Below.setCell (Below.refl g w) (p:=⟨g,1,none⟩) (Nat.le_refl _) _
 refine ⟨⟨?_,h.row.kept (fun k hk _=>Below.heap_setCell _ _ _ k (by show k≠g;omega)),h.tok.below hb,by have:=h.few;omega,ha,h.max⟩,hk⟩
 have h3:=h.blk.set_ 1 (.int .i64 ((a:Int)+1))
 rw [Int.natCast_add]
 exact h3
theorem RdR.fail (h:RdR g w ts a bad ns lg tv nv):RdR g (w.setCell ⟨g,2,none⟩ (.bool true)) ts a true ns lg tv nv∧KR g nv nv w (w.setCell ⟨g,2,none⟩ (.bool true)):=by
 have hk:KR g nv nv w (w.setCell ⟨g,2,none⟩ (.bool true)):=KR.set (Below.refl g w) 2 _
 have hb:Below g w (w.setCell ⟨g,2,none⟩ (.bool true)):=Below.setCell (Below.refl g w) (p:=⟨g,2,none⟩) (Nat.le_refl _) _
 exact ⟨⟨h.blk.set_ 2 (.bool true),h.row.kept (fun k hk _=>Below.heap_setCell _ _ _ k (by show k≠g;omega)),h.tok.below hb,h.few,h.le,h.max⟩,hk⟩
theorem RdR.large (h:RdR g w ts a bad ns lg tv nv) (l2:Bool):RdR g (w.setCell ⟨g,4,none⟩ (.bool l2)) ts a bad ns l2 tv nv∧KR g nv nv w (w.setCell ⟨g,4,none⟩ (.bool l2)):=by
 have hk:KR g nv nv w (w.setCell ⟨g,4,none⟩ (.bool l2)):=KR.set (Below.refl g w) 4 _
 have hb:Below g w (w.setCell ⟨g,4,none⟩ (.bool l2)):=Below.setCell (Below.refl g w) (p:=⟨g,4,none⟩) (Nat.le_refl _) _
 exact ⟨⟨h.blk.set_ 4 (.bool l2),h.row.kept (fun k hk _=>Below.heap_setCell _ _ _ k (by show k≠g;omega)),h.tok.below hb,h.few,h.le,h.max⟩,hk⟩
end
set_option maxRecDepth 100000 in
theorem is_any (g:Nat) (w:World) (ts:List Tok) (a:Nat) (bad:Bool) (ns:List Nd) (lg:Bool) (tv nv:Value) (c:List UInt8) (h:RdR g w ts a bad ns lg tv nv):
  Calls Tryz.prog 72 #[.pointer (some ⟨g,0,none⟩),str c] w fun e w'=>e= .returned (.bool (!bad && isS ts a c))∧Dr w w':=by
 have hb:=h.blk
 have hn:=h.row
 obtain ⟨A,c0,rfl,hcell⟩:=h.tok
 obtain ⟨A2,c2,rfl⟩:=hn.shape
 have hle:=h.le
 have hmax:=h.max
 obtain ⟨⟨k0,k1,k2,k3,k4⟩,_,hg⟩:=hb.five'
 clear hb hn h
 cases bad
 ·obtain ⟨n,hnt⟩:∃n,n=ts.length:=⟨_,rfl⟩
  rw [←hnt] at k0 hle hmax
  have HNT:=Lib.hid hnt
  clear hnt
  rcases Nat.lt_or_ge a n with hlt|hge
  ·have hlt2:a<ts.length:=by rw [←HNT.out];exact hlt
   obtain ⟨b,rfl,_,_,hc⟩:=hcell (by omega)
   obtain ⟨q0,q1,q2⟩:=hc a hlt2
   have hI:isS ts a c=((ts[a].kind == 3) && (ts[a].text == c)):=by
    unfold isS
    rw [List.getElem?_eq_getElem hlt2]
   have HI:=Lib.hid hI
   clear hI hcell hc
   generalize ts[a].kind=tk at *
   generalize ts[a].text=tx at *
   generalize isS ts a c=r at *
   have z1:decide (a<n)=true:=decide_eq_true hlt
   cases hk:(tk == 3)
   ·have hk2:((tk:Int) == 3)=false:=by
     rw [beq_eq_false_iff_ne] at hk ⊢
     omega
    rw [hk] at HI
    clear hk
    go_enter Tryz.func72,Tryz.ntmps72
    go_wp2_with fail
    go_quiet (fail)
    go_wp2_with fail
    go_ret
    exact ⟨by rw [HI.out];rfl,(Dr.refl w).drewN _⟩
   ·have hk2:((tk:Int) == 3)=true:=by
     rw [beq_iff_eq] at hk ⊢
     omega
    rw [hk] at HI
    clear hk
    go_enter Tryz.func72,Tryz.ntmps72
    go_wp2_with fail
    go_quiet (fail)
    go_wp2_with fail
    go_ret
    exact ⟨by rw [HI.out];rfl,(Dr.refl w).drewN _⟩
  ·have HI:Hid (isS ts a c=false):=Lib.hid (by
    unfold isS
    rw [List.getElem?_eq_none (by rw [←HNT.out];exact hge)])
   have z1:decide (a<n)=false:=decide_eq_false (by omega)
   have z2:¬(a:Int)<(n:Int):=by omega
   clear hcell
   go_enter Tryz.func72,Tryz.ntmps72
   go_wp2_with fail
   go_quiet (fail)
   go_wp2_with fail
   go_ret
   exact ⟨by rw [HI.out];rfl,(Dr.refl w).drewN _⟩
 ·clear hcell
  go_enter Tryz.func72,Tryz.ntmps72
  go_wp2_with fail
  go_quiet (fail)
  go_wp2_with fail
  go_ret
  exact ⟨rfl,(Dr.refl w).drewN _⟩
set_option maxRecDepth 100000 in
theorem expect_any (g:Nat) (w:World) (ts:List Tok) (a:Nat) (bad:Bool) (ns:List Nd) (lg:Bool) (tv nv:Value) (c:List UInt8) (h:RdR g w ts a bad ns lg tv nv):
  Calls Tryz.prog 158 #[.pointer (some ⟨g,0,none⟩),str c] w fun e w'=>e= .returned (.tuple #[])∧KR g nv nv w w'∧RdR g w' ts (if (!bad && isS ts a c)=true then a+1 else a) (!(!bad && isS ts a c)) ns lg tv nv:=by
 have HS:=Lib.hid (is_any g w ts a bad ns lg tv nv c h)
 have H:=Lib.hid h
 have hmax:=h.max
 have hle:=h.le
 cases hs:(!bad && isS ts a c)
 ·rw [hs] at HS
  clear h hs
  go_enter Tryz.func158,Tryz.ntmps158
  go_wp2_with fail
  refine HS.out.mono ?_
  rintro e w1 ⟨rfl,hd⟩
  have hr:=H.out.keep hd.ext
  have HR:=Lib.hid hr
  have HD:=Lib.hid hd
  obtain ⟨⟨k0,k1,k2,k3,k4⟩,⟨f1,f2,f3,f4⟩,hg⟩:=hr.blk.five'
  clear hd hr
  go_wp2_with fail
  go_end0
  have h3:=HR.out.fail
  exact ⟨rfl,(KR.of_ext HD.out.ext).trans h3.2,h3.1⟩
 ·rw [hs] at HS
  have hlt:=isS_lt (Bool.and_eq_true_iff.1 hs).2
  have hbf:bad=false:=by have:=(Bool.and_eq_true_iff.1 hs).1;simpa using this
  subst hbf
  have hw1:IntKind.i64.wrap ((a:Int)+1)=(a:Int)+1:=IntWalk.i64_in _ (by omega)
  clear h hs
  go_enter Tryz.func158,Tryz.ntmps158
  go_wp2_with fail
  refine HS.out.mono ?_
  rintro e w1 ⟨rfl,hd⟩
  have hr:=H.out.keep hd.ext
  have HR:=Lib.hid hr
  have HD:=Lib.hid hd
  obtain ⟨⟨k0,k1,k2,k3,k4⟩,⟨f1,f2,f3,f4⟩,hg⟩:=hr.blk.five'
  clear hd hr
  go_wp2_with fail
  (try simp only [Exit.inBlock,Exit.then])
  refine bodyPost_ret (results_none rfl _ _ _) rfl ?_
  have h3:=HR.out.stepR hlt
  exact ⟨rfl,(KR.of_ext HD.out.ext).trans h3.2,h3.1⟩
def putN (k first z:Int) (len:Nat) (t:List UInt8):Nd:=if operI k=1 then ⟨k,(len:Int)-1,0,z,t⟩ else if operI k=2 then ⟨k,first,(len:Int)-1,z,t⟩ else ⟨k,0,0,z,t⟩
set_option maxHeartbeats 2000000 in
set_option maxRecDepth 100000 in
theorem put_any (g:Nat) (w:World) (ts:List Tok) (a:Nat) (bad:Bool) (ns:List Nd) (lg:Bool) (tv nv:Value) (k first z:Int) (t:List UInt8) (h:RdR g w ts a bad ns lg tv nv) (hf:ns.length+1≤a):
  Calls Tryz.prog 73 #[.pointer (some ⟨g,0,none⟩),.int .i64 k,.int .i64 first,.int .i64 z,str t] w fun e w'=>∃nv',e= .returned (.tuple #[])∧KR g nv nv' w w'∧RdR g w' ts a bad (ns++[putN k first z ns.length t]) lg tv nv':=by
 have hblk:=h.blk
 have hrow:=h.row
 have HT:=Lib.hid h.tok
 have hle:=h.le
 have hmax:=h.max
 have HB:=Lib.hid hblk
 have HR:=Lib.hid hrow
 obtain ⟨A,c,rfl⟩:=hrow.shape
 have hgz:=hblk.lt
 obtain ⟨i0,hi,hz0,hz1,hz2⟩:=info_parts info_node
 obtain ⟨s,hs⟩:∃s:ByteArray,s=⟨t.toArray⟩:=⟨_,rfl⟩
 have HSS:Hid (str t= .string s):=Lib.hid (by rw [hs];rfl)
 rw [HSS.out]
 clear hs h hrow
 have HOP:=Lib.hid (fun W=>operands_any W k)
 obtain ⟨⟨k0,k1,k2,k3,k4⟩,⟨f1,f2,f3,f4⟩,_⟩:=hblk.five'
 clear hblk
 obtain ⟨n,hn⟩:∃n,n=ns.length:=⟨_,rfl⟩
 rw [←hn] at hf k3 ⊢
 have HN:=Lib.hid hn
 clear hn
 have hw1:IntKind.i64.wrap ((n:Int)-1)=(n:Int)-1:=IntWalk.i64_in _ (by omega)
 have key:=operI_cases k
 have hnone:∀q:Int,¬q=1→(q == 1)=false:=fun q h=>by rw [beq_eq_false_iff_ne];exact h
 clear hnone
 have h3:(operI k≠1∧operI k≠2)∨operI k=1∨operI k=2:=by omega
 rcases h3 with ⟨hop1,hop2⟩|hop|hop
 ·have b1:(operI k == 1)=false:=by rw [beq_eq_false_iff_ne];exact hop1
  have b2:(operI k == 2)=false:=by rw [beq_eq_false_iff_ne];exact hop2
  have HPN:Hid (putN k first z ns.length t=⟨k,0,0,z,t⟩):=Lib.hid (by unfold putN;rw [if_neg hop1,if_neg hop2])
  generalize operI k=op at *
  go_enter Tryz.func73,Tryz.ntmps73
  go_wp2_with fail
  refine (HOP.out _).mono ?_
  rintro e w2 ⟨rfl,rfl⟩
  obtain ⟨w0,hw0⟩:∃w0,w0=w.alloc (.cells #[.int .i64 k,.int .i64 0,.int .i64 0,.int .i64 z,.string s] 50):=⟨_,rfl⟩
  have hx0:Ext w w0:=by rw [hw0];exact ((Ext.refl w).alloc _)
  have hbx:Blk w0 w.heap.size 50 #[.int .i64 k,.int .i64 0,.int .i64 0,.int .i64 z,.string s]:=by rw [hw0];exact (Blk.new w _ _)
  have hsz:w0.heap.size=w.heap.size+1:=by rw [hw0];simp
  have HB0:=Lib.hid (HB.out.ext hx0)
  have HR0:=Lib.hid (HR.out.ext hx0)
  have HX0:=Lib.hid hx0
  have hlen:ns.length=n:=HN.out.symm
  have HRn:Hid (w.ownsRow (g+1) 50 5 (.slice A n c) n (ndsC ns)):=Lib.hid (by have h:=HR.out;unfold OwnNd at h;rw [hlen] at h;exact h)
  have hne:∀q,(Value.slice A n c).ownBlock=some q→g≠q:=fun q hq=>by have:=ownsRow_block HRn.out q hq;omega
  have HMID:Hid (∀w':World,(w0.alloc (.cells #[.int .i64 k,.int .i64 0,.int .i64 0,.int .i64 z,.string s] 50)).drew.grownBy w' (Value.slice A n c).ownBlock→Blk w' g 90 #[tv,.int .i64 (a:Int),.bool bad,.slice A n c,.bool lg]∧(Below g w0 w'∧∀q,q<w.heap.size→(Value.slice A n c).ownBlock≠some q→w'.heap[q]? =w.heap[q]?)):=Lib.hid (fun w' hgr=>by
   refine ⟨?_,?_⟩
   ·have h1:=hgr.block g (show g<(w0.alloc (.cells #[.int .i64 k,.int .i64 0,.int .i64 0,.int .i64 z,.string s] 50)).drew.heap.size by simp;omega) (fun e=>hne g e.symm rfl)
    have h2:=(HB0.out.alloc (.cells #[.int .i64 k,.int .i64 0,.int .i64 0,.int .i64 z,.string s] 50)).drew
    rw [hlen] at h2
    exact h1.trans h2
   ·refine ⟨(((Below.refl g w0).alloc (by omega) _).drew).grown hgr (by simp;omega) (fun q hq=>by have:=ownsRow_block HRn.out q hq;omega),fun q hq hne2=> ?_⟩
    have h1:=hgr.block q (show q<(w0.alloc (.cells #[.int .i64 k,.int .i64 0,.int .i64 0,.int .i64 z,.string s] 50)).drew.heap.size by simp;omega) (fun e=>hne2 e.symm)
    rw [h1]
    exact (Below.heap_alloc w0 _ q (by omega)).trans (hx0.block q hq))
  have HC0:Hid (∀(j:Nat) (u:Value),[Value.int .i64 k,Value.int .i64 0,Value.int .i64 0,Value.int .i64 z,Value.string s][j]? =some u→(w0.alloc (.cells #[.int .i64 k,.int .i64 0,.int .i64 0,.int .i64 z,.string s] 50)).drew.cell? ((⟨w0.heap.size,0,none⟩:Addr).add j)=some u):=Lib.hid (newsL w0 50 [.int .i64 k,.int .i64 0,.int .i64 0,.int .i64 z,.string s])
  have HRO:Hid ((w0.alloc (.cells #[.int .i64 k,.int .i64 0,.int .i64 0,.int .i64 z,.string s] 50)).drew.ownsRow (g+1) 50 5 (.slice A n c) n (ndsC ns)):=Lib.hid (by
   have h:=ownsRow_below HR0.out (w':=(w0.alloc (.cells #[.int .i64 k,.int .i64 0,.int .i64 0,.int .i64 z,.string s] 50)).drew) (fun k _ hk=>Below.heap_alloc w0 _ k hk)
   rw [hlen] at h
   exact h)
  have HB1:Hid (n+1≤maxLen):=Lib.hid (by unfold maxLen;omega)
  have HB2:Hid ((n+1)*48≤140737488355328):=Lib.hid (by omega)
  have HB3:Hid (g+1≤(w0.alloc (.cells #[.int .i64 k,.int .i64 0,.int .i64 0,.int .i64 z,.string s] 50)).drew.heap.size):=Lib.hid (by simp;omega)
  have HTC:Hid (ndC (putN k first z ns.length t)=[.int .i64 k,.int .i64 0,.int .i64 0,.int .i64 z,.string s]):=Lib.hid (by rw [HPN.out];(try rw [hlen]);simp only [ndC,HSS.out])
  rw [hsz] at HC0
  have HZ:=Lib.hid hw0
  obtain ⟨q0,q1,q2,q3,q4⟩:=hbx.five
  obtain ⟨⟨k0,k1,k2,k3,k4⟩,⟨f1,f2,f3,f4⟩,hg0⟩:=HB0.out.five'
  rw [hlen] at k3
  clear hne hx0 hbx hw0 hlen
  go_upto_region 6 with fail
  rw [←HZ.out]
  clear HZ
  go_region_law (refine step_append_lies _ rfl (.tmp 41) (.tmp 43) 25 rfl (g+1) 50 i0 _ 5 48 Tryz.underlying25 hi hz0 hz1 hz2 rfl (by decide) _ n (ndsC ns) rfl HRO.out ⟨w.heap.size+1,0,none⟩ 1 1 [.int .i64 k,.int .i64 0,.int .i64 0,.int .i64 z,.string s] rfl rfl HC0.out (by simp [Value.oneCell']) (by decide) HB1.out HB2.out HB3.out _ rfl ?_;intro g' c' w' hown hgr hat hlt;have HOW:=Lib.hid hown;have HM:=Lib.hid (HMID.out w' hgr);have HAT:=Lib.hid hat;clear hown hgr hat;obtain ⟨⟨m0,m1,m2,m3,m4⟩,⟨n1,n2,n3,n4⟩,hgz2⟩:=HM.out.1.five')
  all_goals
   have hf1:=HM.out.1.set_ 3 (.slice (some ⟨g',0,none⟩) (n+1) c')
   have HBE:=Lib.hid ((Below.mono HX0.out (Nat.le_of_lt hgz)).trans (HM.out.2.1.setCell (p:=⟨g,3,none⟩) (Nat.le_refl _) (.slice (some ⟨g',0,none⟩) (n+1) c')))
   have HF:Hid (RdR g (w'.setCell ⟨g,3,none⟩ (.slice (some ⟨g',0,none⟩) (n+1) c')) ts a bad (ns++[putN k first z ns.length t]) lg tv (.slice (some ⟨g',0,none⟩) (n+1) c')):=Lib.hid ⟨hf1,by
     have h3:=HOW.out
     unfold OwnNd
     rw [ndsC_append,ndsC_one,HTC.out,List.length_append,List.length_singleton,←HN.out]
     exact ownsRow_below h3 (fun k hk _=>Below.heap_setCell _ _ _ k (by show k≠g;omega)),HT.out.below HBE.out,by rw [List.length_append,List.length_singleton,←HN.out];exact hf,hle,hmax⟩
   have HKR:Hid (KR g (.slice A n c) (.slice (some ⟨g',0,none⟩) (n+1) c') w (w'.setCell ⟨g,3,none⟩ (.slice (some ⟨g',0,none⟩) (n+1) c'))):=Lib.hid ⟨HBE.out.os,HBE.out.tape,HBE.out.output,HBE.out.size,fun q h1 h2 h3=>(Below.heap_setCell _ _ _ q h2).trans (HM.out.2.2 q h1 h3),fun j hj=>by
     simp only [Value.ownBlock,Option.some.injEq] at hj
     subst hj
     rcases HAT.out with h4|h4
     ·exact .inl h4
     ·right
      rw [h4]
      simp
      omega⟩
   clear hf1
   go_wp2_with fail
   go_end0
   rw [HN.out] at HKR HF ⊢
   exact ⟨_,rfl,HKR.out,HF.out⟩
 ·have HPN:Hid (putN k first z ns.length t=⟨k,(ns.length:Int)-1,0,z,t⟩):=Lib.hid (by unfold putN;rw [if_pos hop])
  rw [hop] at HOP
  clear hop key
  go_enter Tryz.func73,Tryz.ntmps73
  go_wp2_with fail
  refine (HOP.out _).mono ?_
  rintro e w2 ⟨rfl,rfl⟩
  go_upto_region 6 with fail
  obtain ⟨w0,hw0⟩:∃w0,w0=w.alloc (.cells #[.int .i64 k,.int .i64 ((n:Int)-1),.int .i64 0,.int .i64 z,.string s] 50):=⟨_,rfl⟩
  have hx0:Ext w w0:=by rw [hw0];exact ((Ext.refl w).alloc _)
  have hbx:Blk w0 w.heap.size 50 #[.int .i64 k,.int .i64 ((n:Int)-1),.int .i64 0,.int .i64 z,.string s]:=by rw [hw0];exact (Blk.new w _ _)
  have hsz:w0.heap.size=w.heap.size+1:=by rw [hw0];simp
  have HB0:=Lib.hid (HB.out.ext hx0)
  have HR0:=Lib.hid (HR.out.ext hx0)
  have HX0:=Lib.hid hx0
  have hlen:ns.length=n:=HN.out.symm
  have HRn:Hid (w.ownsRow (g+1) 50 5 (.slice A n c) n (ndsC ns)):=Lib.hid (by have h:=HR.out;unfold OwnNd at h;rw [hlen] at h;exact h)
  have hne:∀q,(Value.slice A n c).ownBlock=some q→g≠q:=fun q hq=>by have:=ownsRow_block HRn.out q hq;omega
  have HMID:Hid (∀w':World,(w0.alloc (.cells #[.int .i64 k,.int .i64 ((n:Int)-1),.int .i64 0,.int .i64 z,.string s] 50)).drew.grownBy w' (Value.slice A n c).ownBlock→Blk w' g 90 #[tv,.int .i64 (a:Int),.bool bad,.slice A n c,.bool lg]∧(Below g w0 w'∧∀q,q<w.heap.size→(Value.slice A n c).ownBlock≠some q→w'.heap[q]? =w.heap[q]?)):=Lib.hid (fun w' hgr=>by
   refine ⟨?_,?_⟩
   ·have h1:=hgr.block g (show g<(w0.alloc (.cells #[.int .i64 k,.int .i64 ((n:Int)-1),.int .i64 0,.int .i64 z,.string s] 50)).drew.heap.size by simp;omega) (fun e=>hne g e.symm rfl)
    have h2:=(HB0.out.alloc (.cells #[.int .i64 k,.int .i64 ((n:Int)-1),.int .i64 0,.int .i64 z,.string s] 50)).drew
    rw [hlen] at h2
    exact h1.trans h2
   ·refine ⟨(((Below.refl g w0).alloc (by omega) _).drew).grown hgr (by simp;omega) (fun q hq=>by have:=ownsRow_block HRn.out q hq;omega),fun q hq hne2=> ?_⟩
    have h1:=hgr.block q (show q<(w0.alloc (.cells #[.int .i64 k,.int .i64 ((n:Int)-1),.int .i64 0,.int .i64 z,.string s] 50)).drew.heap.size by simp;omega) (fun e=>hne2 e.symm)
    rw [h1]
    exact (Below.heap_alloc w0 _ q (by omega)).trans (hx0.block q hq))
  have HC0:Hid (∀(j:Nat) (u:Value),[Value.int .i64 k,Value.int .i64 ((n:Int)-1),Value.int .i64 0,Value.int .i64 z,Value.string s][j]? =some u→(w0.alloc (.cells #[.int .i64 k,.int .i64 ((n:Int)-1),.int .i64 0,.int .i64 z,.string s] 50)).drew.cell? ((⟨w0.heap.size,0,none⟩:Addr).add j)=some u):=Lib.hid (newsL w0 50 [.int .i64 k,.int .i64 ((n:Int)-1),.int .i64 0,.int .i64 z,.string s])
  have HRO:Hid ((w0.alloc (.cells #[.int .i64 k,.int .i64 ((n:Int)-1),.int .i64 0,.int .i64 z,.string s] 50)).drew.ownsRow (g+1) 50 5 (.slice A n c) n (ndsC ns)):=Lib.hid (by
   have h:=ownsRow_below HR0.out (w':=(w0.alloc (.cells #[.int .i64 k,.int .i64 ((n:Int)-1),.int .i64 0,.int .i64 z,.string s] 50)).drew) (fun k _ hk=>Below.heap_alloc w0 _ k hk)
   rw [hlen] at h
   exact h)
  have HB1:Hid (n+1≤maxLen):=Lib.hid (by unfold maxLen;omega)
  have HB2:Hid ((n+1)*48≤140737488355328):=Lib.hid (by omega)
  have HB3:Hid (g+1≤(w0.alloc (.cells #[.int .i64 k,.int .i64 ((n:Int)-1),.int .i64 0,.int .i64 z,.string s] 50)).drew.heap.size):=Lib.hid (by simp;omega)
  have HTC:Hid (ndC (putN k first z ns.length t)=[.int .i64 k,.int .i64 ((n:Int)-1),.int .i64 0,.int .i64 z,.string s]):=Lib.hid (by rw [HPN.out];(try rw [hlen]);simp only [ndC,HSS.out])
  rw [hsz] at HC0
  have HZ:=Lib.hid hw0
  obtain ⟨q0,q1,q2,q3,q4⟩:=hbx.five
  obtain ⟨⟨k0,k1,k2,k3,k4⟩,⟨f1,f2,f3,f4⟩,hg0⟩:=HB0.out.five'
  rw [hlen] at k3
  clear hne hx0 hbx hw0 hlen
  go_upto_region 6 with fail
  rw [←HZ.out]
  clear HZ
  go_region_law (refine step_append_lies _ rfl (.tmp 41) (.tmp 43) 25 rfl (g+1) 50 i0 _ 5 48 Tryz.underlying25 hi hz0 hz1 hz2 rfl (by decide) _ n (ndsC ns) rfl HRO.out ⟨w.heap.size+1,0,none⟩ 1 1 [.int .i64 k,.int .i64 ((n:Int)-1),.int .i64 0,.int .i64 z,.string s] rfl rfl HC0.out (by simp [Value.oneCell']) (by decide) HB1.out HB2.out HB3.out _ rfl ?_;intro g' c' w' hown hgr hat hlt;have HOW:=Lib.hid hown;have HM:=Lib.hid (HMID.out w' hgr);have HAT:=Lib.hid hat;clear hown hgr hat;obtain ⟨⟨m0,m1,m2,m3,m4⟩,⟨n1,n2,n3,n4⟩,hgz2⟩:=HM.out.1.five')
  all_goals
   have hf1:=HM.out.1.set_ 3 (.slice (some ⟨g',0,none⟩) (n+1) c')
   have HBE:=Lib.hid ((Below.mono HX0.out (Nat.le_of_lt hgz)).trans (HM.out.2.1.setCell (p:=⟨g,3,none⟩) (Nat.le_refl _) (.slice (some ⟨g',0,none⟩) (n+1) c')))
   have HF:Hid (RdR g (w'.setCell ⟨g,3,none⟩ (.slice (some ⟨g',0,none⟩) (n+1) c')) ts a bad (ns++[putN k first z ns.length t]) lg tv (.slice (some ⟨g',0,none⟩) (n+1) c')):=Lib.hid ⟨hf1,by
     have h3:=HOW.out
     unfold OwnNd
     rw [ndsC_append,ndsC_one,HTC.out,List.length_append,List.length_singleton,←HN.out]
     exact ownsRow_below h3 (fun k hk _=>Below.heap_setCell _ _ _ k (by show k≠g;omega)),HT.out.below HBE.out,by rw [List.length_append,List.length_singleton,←HN.out];exact hf,hle,hmax⟩
   have HKR:Hid (KR g (.slice A n c) (.slice (some ⟨g',0,none⟩) (n+1) c') w (w'.setCell ⟨g,3,none⟩ (.slice (some ⟨g',0,none⟩) (n+1) c'))):=Lib.hid ⟨HBE.out.os,HBE.out.tape,HBE.out.output,HBE.out.size,fun q h1 h2 h3=>(Below.heap_setCell _ _ _ q h2).trans (HM.out.2.2 q h1 h3),fun j hj=>by
     simp only [Value.ownBlock,Option.some.injEq] at hj
     subst hj
     rcases HAT.out with h4|h4
     ·exact .inl h4
     ·right
      rw [h4]
      simp
      omega⟩
   clear hf1
   go_wp2_with fail
   go_end0
   rw [HN.out] at HKR HF ⊢
   exact ⟨_,rfl,HKR.out,HF.out⟩
 ·have HPN:Hid (putN k first z ns.length t=⟨k,first,(ns.length:Int)-1,z,t⟩):=Lib.hid (by unfold putN;rw [if_neg (by rw [hop];decide),if_pos hop])
  rw [hop] at HOP
  clear hop key
  go_enter Tryz.func73,Tryz.ntmps73
  go_wp2_with fail
  refine (HOP.out _).mono ?_
  rintro e w2 ⟨rfl,rfl⟩
  go_upto_region 5 with fail
  go_region
  all_goals go_upto_region 6 with fail
  obtain ⟨w0,hw0⟩:∃w0,w0=(w.alloc (.cells #[.int .i64 k,.int .i64 first,.int .i64 ((n:Int)-1),.int .i64 z,.string s] 50)).drew:=⟨_,rfl⟩
  have hx0:Ext w w0:=by rw [hw0];exact ((Ext.refl w).alloc _).drew
  have hbx:Blk w0 w.heap.size 50 #[.int .i64 k,.int .i64 first,.int .i64 ((n:Int)-1),.int .i64 z,.string s]:=by rw [hw0];exact (Blk.new w _ _).drew
  have hsz:w0.heap.size=w.heap.size+1:=by rw [hw0];simp
  have HB0:=Lib.hid (HB.out.ext hx0)
  have HR0:=Lib.hid (HR.out.ext hx0)
  have HX0:=Lib.hid hx0
  have hlen:ns.length=n:=HN.out.symm
  have HRn:Hid (w.ownsRow (g+1) 50 5 (.slice A n c) n (ndsC ns)):=Lib.hid (by have h:=HR.out;unfold OwnNd at h;rw [hlen] at h;exact h)
  have hne:∀q,(Value.slice A n c).ownBlock=some q→g≠q:=fun q hq=>by have:=ownsRow_block HRn.out q hq;omega
  have HMID:Hid (∀w':World,(w0.alloc (.cells #[.int .i64 k,.int .i64 first,.int .i64 ((n:Int)-1),.int .i64 z,.string s] 50)).drew.grownBy w' (Value.slice A n c).ownBlock→Blk w' g 90 #[tv,.int .i64 (a:Int),.bool bad,.slice A n c,.bool lg]∧(Below g w0 w'∧∀q,q<w.heap.size→(Value.slice A n c).ownBlock≠some q→w'.heap[q]? =w.heap[q]?)):=Lib.hid (fun w' hgr=>by
   refine ⟨?_,?_⟩
   ·have h1:=hgr.block g (show g<(w0.alloc (.cells #[.int .i64 k,.int .i64 first,.int .i64 ((n:Int)-1),.int .i64 z,.string s] 50)).drew.heap.size by simp;omega) (fun e=>hne g e.symm rfl)
    have h2:=(HB0.out.alloc (.cells #[.int .i64 k,.int .i64 first,.int .i64 ((n:Int)-1),.int .i64 z,.string s] 50)).drew
    rw [hlen] at h2
    exact h1.trans h2
   ·refine ⟨(((Below.refl g w0).alloc (by omega) _).drew).grown hgr (by simp;omega) (fun q hq=>by have:=ownsRow_block HRn.out q hq;omega),fun q hq hne2=> ?_⟩
    have h1:=hgr.block q (show q<(w0.alloc (.cells #[.int .i64 k,.int .i64 first,.int .i64 ((n:Int)-1),.int .i64 z,.string s] 50)).drew.heap.size by simp;omega) (fun e=>hne2 e.symm)
    rw [h1]
    exact (Below.heap_alloc w0 _ q (by omega)).trans (hx0.block q hq))
  have HC0:Hid (∀(j:Nat) (u:Value),[Value.int .i64 k,Value.int .i64 first,Value.int .i64 ((n:Int)-1),Value.int .i64 z,Value.string s][j]? =some u→(w0.alloc (.cells #[.int .i64 k,.int .i64 first,.int .i64 ((n:Int)-1),.int .i64 z,.string s] 50)).drew.cell? ((⟨w0.heap.size,0,none⟩:Addr).add j)=some u):=Lib.hid (newsL w0 50 [.int .i64 k,.int .i64 first,.int .i64 ((n:Int)-1),.int .i64 z,.string s])
  have HRO:Hid ((w0.alloc (.cells #[.int .i64 k,.int .i64 first,.int .i64 ((n:Int)-1),.int .i64 z,.string s] 50)).drew.ownsRow (g+1) 50 5 (.slice A n c) n (ndsC ns)):=Lib.hid (by
   have h:=ownsRow_below HR0.out (w':=(w0.alloc (.cells #[.int .i64 k,.int .i64 first,.int .i64 ((n:Int)-1),.int .i64 z,.string s] 50)).drew) (fun k _ hk=>Below.heap_alloc w0 _ k hk)
   rw [hlen] at h
   exact h)
  have HB1:Hid (n+1≤maxLen):=Lib.hid (by unfold maxLen;omega)
  have HB2:Hid ((n+1)*48≤140737488355328):=Lib.hid (by omega)
  have HB3:Hid (g+1≤(w0.alloc (.cells #[.int .i64 k,.int .i64 first,.int .i64 ((n:Int)-1),.int .i64 z,.string s] 50)).drew.heap.size):=Lib.hid (by simp;omega)
  have HTC:Hid (ndC (putN k first z ns.length t)=[.int .i64 k,.int .i64 first,.int .i64 ((n:Int)-1),.int .i64 z,.string s]):=Lib.hid (by rw [HPN.out];(try rw [hlen]);simp only [ndC,HSS.out])
  rw [hsz] at HC0
  have HZ:=Lib.hid hw0
  obtain ⟨q0,q1,q2,q3,q4⟩:=hbx.five
  obtain ⟨⟨k0,k1,k2,k3,k4⟩,⟨f1,f2,f3,f4⟩,hg0⟩:=HB0.out.five'
  rw [hlen] at k3
  clear hne hx0 hbx hw0 hlen
  go_upto_region 6 with fail
  rw [←HZ.out]
  clear HZ
  go_region_law (refine step_append_lies _ rfl (.tmp 41) (.tmp 43) 25 rfl (g+1) 50 i0 _ 5 48 Tryz.underlying25 hi hz0 hz1 hz2 rfl (by decide) _ n (ndsC ns) rfl HRO.out ⟨w.heap.size+1,0,none⟩ 1 1 [.int .i64 k,.int .i64 first,.int .i64 ((n:Int)-1),.int .i64 z,.string s] rfl rfl HC0.out (by simp [Value.oneCell']) (by decide) HB1.out HB2.out HB3.out _ rfl ?_;intro g' c' w' hown hgr hat hlt;have HOW:=Lib.hid hown;have HM:=Lib.hid (HMID.out w' hgr);have HAT:=Lib.hid hat;clear hown hgr hat;obtain ⟨⟨m0,m1,m2,m3,m4⟩,⟨n1,n2,n3,n4⟩,hgz2⟩:=HM.out.1.five')
  all_goals
   have hf1:=HM.out.1.set_ 3 (.slice (some ⟨g',0,none⟩) (n+1) c')
   have HBE:=Lib.hid ((Below.mono HX0.out (Nat.le_of_lt hgz)).trans (HM.out.2.1.setCell (p:=⟨g,3,none⟩) (Nat.le_refl _) (.slice (some ⟨g',0,none⟩) (n+1) c')))
   have HF:Hid (RdR g (w'.setCell ⟨g,3,none⟩ (.slice (some ⟨g',0,none⟩) (n+1) c')) ts a bad (ns++[putN k first z ns.length t]) lg tv (.slice (some ⟨g',0,none⟩) (n+1) c')):=Lib.hid ⟨hf1,by
     have h3:=HOW.out
     unfold OwnNd
     rw [ndsC_append,ndsC_one,HTC.out,List.length_append,List.length_singleton,←HN.out]
     exact ownsRow_below h3 (fun k hk _=>Below.heap_setCell _ _ _ k (by show k≠g;omega)),HT.out.below HBE.out,by rw [List.length_append,List.length_singleton,←HN.out];exact hf,hle,hmax⟩
   have HKR:Hid (KR g (.slice A n c) (.slice (some ⟨g',0,none⟩) (n+1) c') w (w'.setCell ⟨g,3,none⟩ (.slice (some ⟨g',0,none⟩) (n+1) c'))):=Lib.hid ⟨HBE.out.os,HBE.out.tape,HBE.out.output,HBE.out.size,fun q h1 h2 h3=>(Below.heap_setCell _ _ _ q h2).trans (HM.out.2.2 q h1 h3),fun j hj=>by
     simp only [Value.ownBlock,Option.some.injEq] at hj
     subst hj
     rcases HAT.out with h4|h4
     ·exact .inl h4
     ·right
      rw [h4]
      simp
      omega⟩
   clear hf1
   go_wp2_with fail
   go_end0
   rw [HN.out] at HKR HF ⊢
   exact ⟨_,rfl,HKR.out,HF.out⟩
end Big
end Go.Proofs.YtaccjdbbkmhanaaGreatDoor
