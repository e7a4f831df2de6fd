import Derived.Test.YtaccjdbbkmhanaaGreatDoorM35
import Derived.Test.YtaccjdbbkmhanaaGreatDoorM33
import Derived.Test.YtaccjdbbkmhanaaGreatDoorM24
namespace Go.Proofs.YtaccjdbbkmhanaaGreatDoor
namespace Big
open Go.RowKit Go.Maps Go.Sort
def NamesV (ns:List Nd) (i:Int) (l:List Tx):Prop:=if 0≤i∧i<(ns.length:Int) then NamesAt ns i.toNat l else l=[]
theorem NamesV.uniq {ns:List Nd} {i:Int} {l m:List Tx} (h:NamesV ns i l) (h':NamesV ns i m):l=m:=by
 unfold NamesV at h h'
 split at h
 ·rw [if_pos (by assumption)] at h'
  exact h.uniq h'
 ·rw [if_neg (by assumption)] at h'
  rw [h,h']
theorem NamesV.of_in {ns:List Nd} {i:Nat} {l:List Tx} (h:NamesAt ns i l) (hi:i<ns.length):NamesV ns (i:Int) l:=by
 unfold NamesV
 rw [if_pos ⟨by omega,by omega⟩,Int.toNat_natCast]
 exact h
theorem NamesV.out {ns:List Nd} {i:Int} (h:i<0∨(ns.length:Int)≤i):NamesV ns i []:=by
 unfold NamesV
 rw [if_neg (by omega)]
theorem ArrS.of_row {B n:Nat} {w:World} {v:Value} {ls:List Tx} (h:w.ownsRow B 9 1 v n (ls.map Go.Proofs.encStr)) (hn:ls.length=n):ArrS w v ls:=by
 have hE:ls.map Go.Proofs.encStr=ls.map str:=rfl
 rw [hE] at h
 rcases h.2 with ⟨rfl,h2⟩|⟨g,cap,cur,rfl,hb,hg,hc,hm,hs,ht⟩
 ·have:ls=[]:=List.eq_nil_of_length_eq_zero (by omega)
  subst this
  exact RArr.none_ w
 ·refine ⟨_,_,by rw [List.length_map,hn],by rw [List.length_map,hn];exact hc,hm,fun _=>⟨g,0,rfl,?_,fun j u hj=> ?_⟩⟩
  ·rcases Nat.lt_or_ge g w.heap.size with h|h
   ·exact h
   ·rw [Array.getElem?_eq_none h] at hg;cases hg
  ·have hjl:j<n:=by
    rcases Nat.lt_or_ge j n with h|h
    ·exact h
    ·rw [List.getElem?_eq_none (by rw [List.length_map];omega)] at hj;cases hj
   rw [Nat.zero_add,h.cellAt j (by omega),hj]
theorem getD_ltB (l:List Nat) (j:Nat) (h:j<l.length):l.getD j 0=l[j]:=by rw [List.getD_eq_getElem?_getD,List.getElem?_eq_getElem h];rfl
def NamesPost (ns:List Nd) (i:Int) (w:World) (e:Ending) (w':World):Prop:=∃v l,e= .returned v∧ArrS w' v l∧NamesV ns i l∧l.length≤1000000∧Ext w w'
set_option maxHeartbeats 8000000 in
set_option maxRecDepth 100000 in
theorem gnames_in (B g b:Nat) (w:World) (ns:List Nd) (nv:Value) (h:GrP B g b w ns nv) (i:Nat) (hi:i<ns.length):
  Calls Tryz.prog 43 #[.pointer (some ⟨g,0,none⟩),.int .i64 (i:Int)] w (NamesPost ns (i:Int) w):=by
 have hfew:=h.few
 have HOK:=Lib.hid h.ok
 have HII:=Lib.hid hi
 obtain ⟨A,c,hrv,hcl⟩:=h.row.read
 subst hrv
 have HCL:=Lib.hid hcl
 have HG:=Lib.hid h
 clear hcl h
 obtain ⟨m,hm⟩:∃m,m=i+1:=⟨_,rfl⟩
 have hm1:m≤4096:=by omega
 have hmn:m≤ns.length:=by omega
 have him:i<m:=by omega
 have HMI:=Lib.hid hm
 have hmk:=run_makeB m (by omega)
 have hmm:=fun W=> @run_makeMap Tryz.prog 104 W
 have hwm:IntKind.i64.wrap ((i:Int)+1)=(m:Int):=by rw [IntWalk.i64_in _ (by omega)];omega
 have hi0:(0:Int)≤(i:Int):=by omega
 have himi:(i:Int)<(m:Int):=by omega
 obtain ⟨k0,k1,f0,f1,hgz⟩:=HG.out.blk.twoG
 obtain ⟨n,hnn⟩:∃n,n=ns.length:=⟨_,rfl⟩
 have HN:=Lib.hid hnn
 rw [←hnn] at HG hfew k0 hmn
 have hd0:decide ((i:Int)<0)=false:=decide_eq_false (by omega)
 have hd1:decide ((i:Int)≥(n:Int))=false:=decide_eq_false (by omega)
 have hd2:decide ((n:Int)≤(i:Int))=false:=decide_eq_false (by omega)
 clear hm hi hnn
 have hd3:decide (n≤i)=false:=decide_eq_false (by omega)
 have z0:=(Blk.new w 4 (cellsB (List.replicate m false))).cell i
 rw [get_cellsB _ _ (by rw [List.length_replicate];omega)] at z0
 have z1:=(Blk.new w 4 (cellsB (List.replicate m false))).frozen i
 have hb1:=Blk.new w 4 ((cellsB (List.replicate m false)).setIfInBounds i (.bool true))
 have HX1:=Lib.hid ((Ext.refl w).alloc (.cells ((cellsB (List.replicate m false)).setIfInBounds i (.bool true)) 4))
 go_enter Tryz.func43,Tryz.ntmps43
 go_upto_region 5 with fail
 obtain ⟨w2,hw2⟩:∃w2,w2=w.alloc (.cells ((cellsB (List.replicate m false)).setIfInBounds i (.bool true)) 4):=⟨_,rfl⟩
 rw [←hw2] at hb1 HX1
 rw [←hw2]
 rw [set_cellsB] at hb1
 obtain ⟨bm,hbm⟩:∃bm,bm=w.heap.size:=⟨_,rfl⟩
 rw [←hbm] at hb1
 have HS1:=Lib.hid hb1
 have HBM:Hid (w.heap.size≤bm):=Lib.hid (by omega)
 rw [←hbm]
 have HX2:=Lib.hid (HX1.out.alloc (.map #[] 0))
 have HS2:=Lib.hid (HS1.out.ext ((Ext.refl w2).alloc (.map #[] 0)))
 have HNS:=Lib.hid (NSet.made w2)
 have HB2:Hid (bm<w2.heap.size):=Lib.hid HS1.out.lt
 obtain ⟨bn,hbn⟩:∃bn,bn=w2.heap.size:=⟨_,rfl⟩
 rw [←hbn] at HNS HB2
 have HBN:Hid (w.heap.size≤bn):=Lib.hid (by have:=HX1.out.size;omega)
 clear hw2 hb1 hmk hwm k0 k1 f0 f1 hbm z0 z1
 go_upto_region 6 with fail
 rw [←hbn]
 obtain ⟨w3,hw3⟩:∃w3,w3=w2.alloc (.map #[] 0):=⟨_,rfl⟩
 rw [←hw3] at HX2 HS2 HNS
 rw [←hw3]
 clear hw3 hbn hmm HX1 HS1
 go_wp2_with fail
 go_loopw [7] (fun s7 wr=>∃(k:Nat) (z:Int),z=(k:Int)-1∧k≤m∧s7= .int .i64 z∧∃(F:List Bool) (cnt:Nat),Blk wr bm 4 (cellsB F)∧MarkedG ns i k F∧F.length=m∧NSet wr bn cnt (NameFrom ns i k)∧cnt+k≤m∧Ext w wr) (fun s7 _=>(intOf s7+1).toNat)
 case atStart=>
  refine ⟨m,(i:Int),by have:=HMI.out;omega,Nat.le_refl _,rfl,(List.replicate m false).set i true,0,HS2.out,?_,by simp,HNS.out.congr (fun t=> ?_),by omega,HX2.out⟩
  ·rw [HMI.out]
   refine MarkedG.start HOK.out (by simp) (by simp;exact HII.out) (fun j hj=> ?_)
   rw [getD_setB]
   simp only [List.length_set,List.length_replicate] at hj ⊢
   have hf:(List.replicate (i+1) false).getD j false=false:=by
    rw [List.getD_eq_getElem?_getD,List.getElem?_replicate]
    split<;>rfl
   rw [hf,Bool.or_false,decide_eq_true_iff]
   exact ⟨fun h=>h.1,fun h=>⟨h,by omega⟩⟩
  ·rw [HMI.out]
   exact ⟨fun h=>h.elim,fun h=>absurd h (NameFrom.top HOK.out)⟩
 case round=>
  clear HX2 HS2 HNS
  obtain ⟨k,z,hz,hkm,rfl,F,cnt,hb,hmk,hFl,hns,hcnt,hx⟩:=hrel
  have HX:=Lib.hid hx
  have HBK:=Lib.hid hb
  have HNN:=Lib.hid hns
  have HMK:=Lib.hid hmk
  have HFL:=Lib.hid hFl
  clear hx hb hns hmk hFl
  rcases k with _|q
  ·obtain rfl:z= -1:=by omega
   clear hz
   have hm0:decide ((-1:Int)≥0)=false:=by decide
   obtain ⟨D,hown,hD⟩:=HNN.out
   have hsz:=hown.size_le
   have HNR:=Lib.hid (fun ss hp=>names_row (ss:=ss) hown (fun t=>(hD t).trans NameFrom.zero) hp)
   have HLK:Hid ((strKeys D).length≤1000000):=Lib.hid (by
    obtain ⟨es,rfl,_⟩:=hown.keysOf
    simp only [strKeys,List.length_map]
    simp only [Maps.size] at hsz
    omega)
   have HKE:=Lib.hid (fun mb W=>callsIn_wide.1 (Tryz.maps_KeysIt mb W))
   have HSO:=Lib.hid (callsIn_wide.1 (Tryz.slices_SortedIt bn cnt D _ wr hown (by unfold maxLen;omega) (by omega)))
   have HVI:=Lib.hid (fun l (hl:NamesAt ns i l)=>NamesV.of_in hl HII.out)
   clear hown hD hsz HNN HBK HMK HFL
   go_wp2_with fail
   refine (HKE.out _ _).mono ?_
   rintro e w5 ⟨rfl,rfl⟩
   go_wp2_with fail
   refine HSO.out.mono ?_
   rintro e w6 ⟨v,ss,rfl,hp,hrow,_,hbl⟩
   have hl:(ss.mergeSort (fun x y=>decide (x≤y))).length=ss.length:=List.length_mergeSort ss
   have HE:=Lib.hid (And.intro (ArrS.of_row hrow hl) (And.intro (HVI.out _ (HNR.out ss hp)) (And.intro (show (ss.mergeSort (fun x y=>decide (x≤y))).length≤1000000 by rw [hl,hp.length_eq];exact HLK.out) ((HX.out.alloc _).trans hbl))))
   clear hp hrow hbl hl
   go_wp2_with fail
   go_ret
   exact ⟨v,_,rfl,HE.out⟩
  ·obtain rfl:z=(q:Int):=by omega
   clear hz
   have hqm:q<m:=by omega
   have hqn:q<ns.length:=by have:=HN.out;omega
   have hok:=HOK.out.2 q _ (List.getElem?_eq_getElem hqn)
   have HRE:=Lib.hid (HMK.out.here HOK.out (by rw [HFL.out];exact hqm))
   have HST:=Lib.hid (HMK.out.step HOK.out (by rw [HFL.out];exact hqm))
   have z0:=HBK.out.cell q
   rw [get_cellsB _ _ (by rw [HFL.out];exact hqm)] at z0
   have hw1:IntKind.i64.wrap ((q:Int)-1)=(q:Int)-1:=IntWalk.i64_in _ (by omega)
   have hq0:(0:Int)≤(q:Int):=by omega
   have hqm2:(q:Int)<(m:Int):=by omega
   have hq1:decide ((q:Int)≥0)=true:=decide_eq_true hq0
   cases hFq:F.getD q false
   ·rw [hFq] at z0
    have hmg:markG ns q F=F:=by unfold markG;rw [if_neg (by rw [hFq];simp)]
    rw [hmg] at HST
    have HNS:=Lib.hid (HNN.out.congr (NameFrom.skip (.inl (fun h=>by rw [HRE.out.2 h] at hFq;cases hFq))))
    clear hmg hFq hok
    go_wp2_with fail
    go_roundw
    case rel=>exact ⟨q,(q:Int)-1,rfl,by omega,by go_num,F,cnt,HBK.out,HST.out,HFL.out,HNS.out,by omega,HX.out⟩
    case measure=>simp [intOf]<;>omega
   ·rw [hFq] at z0
    have HRQ:=Lib.hid (HRE.out.1 hFq)
    have hmg:markG ns q F=setAll F (argsG ns[q]):=by
     unfold markG argsAt
     rw [if_pos (by rw [hFq]),List.getElem?_eq_getElem hqn]
    rw [hmg] at HST
    have HKD:Hid (∀t,ns[q].kind=2→((t=ns[q].text∨NameFrom ns i (q+1) t)↔NameFrom ns i q t)):=Lib.hid (fun t hk=>NameFrom.add HRQ.out (List.getElem?_eq_getElem hqn) hk t)
    have HKN:Hid (∀t,ns[q].kind≠2→(NameFrom ns i (q+1) t↔NameFrom ns i q t)):=Lib.hid (fun t hk=>NameFrom.skip (.inr (fun x hx=>by rw [List.getElem?_eq_getElem hqn] at hx;injection hx with hx;subst hx;exact hk)) t)
    have HAL:=Lib.hid hok.args_lt
    have hal2:=hok.args_len
    have HGO:=Lib.hid (fun W=>gops_any W ns[q] hok)
    have htx:=hok.text
    obtain ⟨gb,o,rfl,hgw,hc⟩:=HCL.out (by omega)
    obtain ⟨p0,p1,p2,p3,p4⟩:=hc q hqn
    rw [←HX.out.cell hgw] at p0 p1 p2 p3 p4
    obtain ⟨k0,k1,f0,f1,hgz⟩:=(HG.out.keep HX.out).blk.twoG
    have hqn2:(q:Int)<(n:Int):=by omega
    have hgr:gb<wr.heap.size:=Nat.lt_of_lt_of_le hgw HX.out.size
    generalize argsG ns[q]=zs at *
    generalize ns[q]=x at *
    clear hmg hFq hok hc hqn
    obtain ⟨y0,y1,y2,y3,y4⟩:=x
    simp only [ndV] at HGO
    simp only at p0 p1 p2 p3 p4 HKD HKN htx
    have HSTO:=Lib.hid (fun W (h:NSet W bn cnt (NameFrom ns i (q+1)))=>h.store (by unfold maxLen;omega) y4 (by unfold maxLen;omega))
    obtain ⟨s,hs⟩:∃s:ByteArray,s=⟨(y4:List UInt8).toArray⟩:=⟨_,rfl⟩
    have hst:str y4= .string s:=by rw [hs];rfl
    rw [hst] at p4 HGO HSTO
    clear hs hst
    have HND:=Lib.hid (Blk.new wr 50 #[.int .i64 y0,.int .i64 y1,.int .i64 y2,.int .i64 y3,.string s])
    have HX7:=Lib.hid ((Ext.refl wr).alloc (.cells #[.int .i64 y0,.int .i64 y1,.int .i64 y2,.int .i64 y3,.string s] 50))
    obtain ⟨w7,hw7⟩:∃w7,w7=wr.alloc (.cells #[.int .i64 y0,.int .i64 y1,.int .i64 y2,.int .i64 y3,.string s] 50):=⟨_,rfl⟩
    rw [←hw7] at HND HX7
    obtain ⟨q0,q1,q2,q3,q4⟩:=HND.out.five
    go_upto_region 11 with fail
    rw [←hw7]
    clear hw7 p0 p1 p2 p3 p4 k0 k1 f0 f1 z0
    obtain ⟨wS,hrun,hnS,hgS⟩:=HSTO.out w7 (HNN.out.ext HX7.out)
    have hbnw:bn<wr.heap.size:=HNN.out.lt
    have hbmw:bm<wr.heap.size:=HBK.out.lt
    have hwz:=HX.out.size
    have h7z:=HX7.out.size
    have hbb:bm≠bn:=by have:=HB2.out;omega
    have hb0:=HBM.out
    have hb1:=HBN.out
    obtain ⟨mz,hmz⟩:∃mz,mz=zs.length:=⟨_,rfl⟩
    have HMZ:=Lib.hid hmz
    rw [←hmz] at hal2
    have HZ:Hid (∀j,j<mz→zs.getD j 0<q):=Lib.hid (fun j hj=>by
     rw [List.getD_eq_getElem?_getD,List.getElem?_eq_getElem (by omega)]
     exact HAL.out _ (List.getElem_mem _))
    have HTK:Hid (∀j,j<mz→zs.take (j+1)=zs.take j++[zs.getD j 0]):=Lib.hid (fun j hj=>by
     rw [List.take_succ_eq_append_getElem (by omega),List.getD_eq_getElem?_getD,List.getElem?_eq_getElem (by omega)]
     rfl)
    clear hmz htx
    have HBR:∃w5,(y0=2→w5=wS)∧(y0≠2→w5=w7)∧NSet w5 bn (cnt+1) (NameFrom ns i q)∧Blk w5 bm 4 (cellsB F)∧Blk w5 wr.heap.size 50 #[.int .i64 y0,.int .i64 y1,.int .i64 y2,.int .i64 y3,.string s]∧Ext w w5∧wr.heap.size<w5.heap.size:=by
     by_cases hk2:y0=2
     ·refine ⟨wS,fun _=>rfl,fun h=>absurd hk2 h,hnS.congr (fun t=>HKD.out t hk2),?_,?_,?_,?_⟩
      ·exact (hgS.block bm (by omega) (fun e=>hbb (Option.some.inj e))).trans (HBK.out.ext HX7.out)
      ·exact (hgS.block _ HND.out.lt (fun e=>by have:=Option.some.inj e;omega)).trans HND.out
      ·exact Below.grown (HX.out.trans HX7.out) hgS (by omega) (fun k hk=>by have:=Option.some.inj hk;omega)
      ·have:=hgS.size
       have:=HND.out.lt
       omega
     ·exact ⟨w7,fun h=>absurd h hk2,fun _=>rfl,((HNN.out.ext HX7.out).congr (fun t=>HKN.out t hk2)).mono (Nat.le_succ _),HBK.out.ext HX7.out,HND.out,HX.out.trans HX7.out,HND.out.lt⟩
    obtain ⟨w5,hA5,hB5,hn5,hbk5,hnd5,hx5,hlt5⟩:=HBR
    have HN5:=Lib.hid hn5
    have HB5:=Lib.hid hbk5
    have HD5:=Lib.hid hnd5
    have HX5:=Lib.hid hx5
    have HE5:=Lib.hid (And.intro hA5 hB5)
    clear hA5 hB5 hn5 hbk5 hnd5 hx5 hnS hgS HKD HKN HSTO
    by_cases hk2:y0=2
    ·have HWE:=Lib.hid (HE5.out.1 hk2)
     subst hk2
     go_upto_region 13 with fail
     rw [←HWE.out]
     clear HWE HE5 hrun q0 q1 q2 q3 q4
     obtain ⟨q0,q1,q2,q3,q4⟩:=HD5.out.five
     go_wp2_with fail
     refine (HGO.out w5).mono ?_
     rintro e w6 ⟨A3,c3,rfl,hx6,hc3⟩
     rw [←HMZ.out] at hc3 ⊢
     have HX6:=Lib.hid (HX5.out.trans hx6)
     have HB6:=Lib.hid (HB5.out.ext hx6)
     have HN6:=Lib.hid (HN5.out.ext hx6)
     have HA6:Hid (∀j,j<mz→∃b3,A3=some ⟨b3,0,none⟩∧b3≠bm∧b3<w6.heap.size∧w6.cell? ⟨b3,j,none⟩=some (.int .i64 ((zs.getD j 0:Nat):Int))):=Lib.hid (fun j hj=>by
      obtain ⟨b3,h1,h2,h3,h4⟩:=hc3 (by omega)
      exact ⟨b3,h1,by omega,h3,h4 j hj⟩)
     clear q0 q1 q2 q3 q4 hx6 hc3 HGO
     go_wp2_with fail
     generalize wr=wa at *
     go_loopw [61] (fun s61 wr=>∃p:Nat,p≤mz∧s61= .int .i64 (p:Int)∧Blk wr bm 4 (cellsB (setAll F (zs.take p)))∧NSet wr bn (cnt+1) (NameFrom ns i q)∧Ext w wr∧(∀j,j<mz→∃b3,A3=some ⟨b3,0,none⟩∧b3≠bm∧wr.cell? ⟨b3,j,none⟩=some (.int .i64 ((zs.getD j 0:Nat):Int)))) (fun s61 _=>mz-(intOf s61).toNat)
     case atStart=>exact ⟨0,Nat.zero_le _,rfl,HB6.out,HN6.out,HX6.out,fun j hj=>by
      obtain ⟨b3,h1,h2,_,h4⟩:=HA6.out j hj
      exact ⟨b3,h1,h2,h4⟩⟩
     case round=>
      clear HB6 HN6 HX6 HA6 HX5 HB5 HN5 HD5 HX
      obtain ⟨p,hp,rfl,hb,hns,hx,hca⟩:=hrel
      have HX:=Lib.hid hx
      by_cases hpz:p<mz
      ·obtain ⟨b3,rfl,hn1,hcell⟩:=hca p hpz
       have HCA:=Lib.hid hca
       have hlow:=HZ.out p hpz
       have hsa:=setAll_snoc (zs.take p) (zs.getD p 0) F
       rw [←HTK.out p hpz] at hsa
       have hlen:=setAll_len (zs.take p) F
       rw [HFL.out] at hlen
       have z1:=hb.cell (zs.getD p 0)
       rw [get_cellsB _ _ (by omega)] at z1
       have f1:=hb.frozen (zs.getD p 0)
       have hs:=hb.set_ (zs.getD p 0) (.bool true)
       rw [set_cellsB,←hsa] at hs
       have HS:=Lib.hid hs
       have HNW:=Lib.hid (hns.at (w':=wr.setCell ⟨bm,zs.getD p 0,none⟩ (.bool true)) (Below.heap_setCell _ _ _ bn (fun e=>hbb e.symm)))
       have HXW:=Lib.hid (hx.setCell (p:=⟨bm,zs.getD p 0,none⟩) hb0 (.bool true))
       have HOW:Hid (∀b3 j,b3≠bm→(wr.setCell ⟨bm,zs.getD p 0,none⟩ (.bool true)).cell? ⟨b3,j,none⟩=wr.cell? ⟨b3,j,none⟩):=Lib.hid (fun b3 j hne=>World.cell?_of_block (a:=⟨b3,j,none⟩) (Below.heap_setCell _ _ _ b3 hne))
       generalize (setAll F (zs.take p)).getD (zs.getD p 0) false=old at *
       generalize hza:zs.getD p 0=za at *
       clear hza hb hns hx hca hs hsa hlen
       have hp0:(0:Int)≤(p:Int):=by omega
       have hpm:(p:Int)<(mz:Int):=by omega
       have hza0:(0:Int)≤(za:Int):=by omega
       have hzam:(za:Int)<(m:Int):=by omega
       have hwp:IntKind.i64.wrap ((p:Int)+1)=(p:Int)+1:=IntWalk.i64_in _ (by omega)
       go_wp2_with fail
       go_roundw
       case rel=>
        refine ⟨p+1,hpz,by go_num,HS.out,HNW.out,HXW.out,fun j hj=> ?_⟩
        obtain ⟨b4,e4,p2,p3⟩:=HCA.out j hj
        exact ⟨b4,e4,p2,(HOW.out b4 j p2).trans p3⟩
       case measure=>simp [intOf];omega
      ·obtain rfl:p=mz:=by omega
       have hb':Blk wr bm 4 (cellsB (setAll F zs)):=by
        have h:=hb
        rw [HMZ.out,List.take_length] at h
        exact h
       have HB9:=Lib.hid hb'
       have HN9:=Lib.hid hns
       clear hb hb' hns hx hca
       go_wp2_with fail
       go_roundw
       case rel=>exact ⟨q,(q:Int)-1,rfl,by omega,by go_num,setAll F zs,cnt+1,HB9.out,HST.out,by rw [setAll_len];exact HFL.out,HN9.out,by omega,HX.out⟩
       case measure=>simp [intOf]<;>omega
    ·have HWE:=Lib.hid (HE5.out.2 hk2)
     have hk3:(y0 == 2)=false:=by rw [beq_eq_false_iff_ne];exact hk2
     clear hk2
     go_upto_region 13 with fail
     rw [←HWE.out]
     clear HWE HE5 hrun q0 q1 q2 q3 q4
     obtain ⟨q0,q1,q2,q3,q4⟩:=HD5.out.five
     go_wp2_with fail
     refine (HGO.out w5).mono ?_
     rintro e w6 ⟨A3,c3,rfl,hx6,hc3⟩
     rw [←HMZ.out] at hc3 ⊢
     have HX6:=Lib.hid (HX5.out.trans hx6)
     have HB6:=Lib.hid (HB5.out.ext hx6)
     have HN6:=Lib.hid (HN5.out.ext hx6)
     have HA6:Hid (∀j,j<mz→∃b3,A3=some ⟨b3,0,none⟩∧b3≠bm∧b3<w6.heap.size∧w6.cell? ⟨b3,j,none⟩=some (.int .i64 ((zs.getD j 0:Nat):Int))):=Lib.hid (fun j hj=>by
      obtain ⟨b3,h1,h2,h3,h4⟩:=hc3 (by omega)
      exact ⟨b3,h1,by omega,h3,h4 j hj⟩)
     clear q0 q1 q2 q3 q4 hx6 hc3 HGO
     go_wp2_with fail
     generalize wr=wa at *
     go_loopw [61] (fun s61 wr=>∃p:Nat,p≤mz∧s61= .int .i64 (p:Int)∧Blk wr bm 4 (cellsB (setAll F (zs.take p)))∧NSet wr bn (cnt+1) (NameFrom ns i q)∧Ext w wr∧(∀j,j<mz→∃b3,A3=some ⟨b3,0,none⟩∧b3≠bm∧wr.cell? ⟨b3,j,none⟩=some (.int .i64 ((zs.getD j 0:Nat):Int)))) (fun s61 _=>mz-(intOf s61).toNat)
     case atStart=>exact ⟨0,Nat.zero_le _,rfl,HB6.out,HN6.out,HX6.out,fun j hj=>by
      obtain ⟨b3,h1,h2,_,h4⟩:=HA6.out j hj
      exact ⟨b3,h1,h2,h4⟩⟩
     case round=>
      clear HB6 HN6 HX6 HA6 HX5 HB5 HN5 HD5 HX
      obtain ⟨p,hp,rfl,hb,hns,hx,hca⟩:=hrel
      have HX:=Lib.hid hx
      by_cases hpz:p<mz
      ·obtain ⟨b3,rfl,hn1,hcell⟩:=hca p hpz
       have HCA:=Lib.hid hca
       have hlow:=HZ.out p hpz
       have hsa:=setAll_snoc (zs.take p) (zs.getD p 0) F
       rw [←HTK.out p hpz] at hsa
       have hlen:=setAll_len (zs.take p) F
       rw [HFL.out] at hlen
       have z1:=hb.cell (zs.getD p 0)
       rw [get_cellsB _ _ (by omega)] at z1
       have f1:=hb.frozen (zs.getD p 0)
       have hs:=hb.set_ (zs.getD p 0) (.bool true)
       rw [set_cellsB,←hsa] at hs
       have HS:=Lib.hid hs
       have HNW:=Lib.hid (hns.at (w':=wr.setCell ⟨bm,zs.getD p 0,none⟩ (.bool true)) (Below.heap_setCell _ _ _ bn (fun e=>hbb e.symm)))
       have HXW:=Lib.hid (hx.setCell (p:=⟨bm,zs.getD p 0,none⟩) hb0 (.bool true))
       have HOW:Hid (∀b3 j,b3≠bm→(wr.setCell ⟨bm,zs.getD p 0,none⟩ (.bool true)).cell? ⟨b3,j,none⟩=wr.cell? ⟨b3,j,none⟩):=Lib.hid (fun b3 j hne=>World.cell?_of_block (a:=⟨b3,j,none⟩) (Below.heap_setCell _ _ _ b3 hne))
       generalize (setAll F (zs.take p)).getD (zs.getD p 0) false=old at *
       generalize hza:zs.getD p 0=za at *
       clear hza hb hns hx hca hs hsa hlen
       have hp0:(0:Int)≤(p:Int):=by omega
       have hpm:(p:Int)<(mz:Int):=by omega
       have hza0:(0:Int)≤(za:Int):=by omega
       have hzam:(za:Int)<(m:Int):=by omega
       have hwp:IntKind.i64.wrap ((p:Int)+1)=(p:Int)+1:=IntWalk.i64_in _ (by omega)
       go_wp2_with fail
       go_roundw
       case rel=>
        refine ⟨p+1,hpz,by go_num,HS.out,HNW.out,HXW.out,fun j hj=> ?_⟩
        obtain ⟨b4,e4,p2,p3⟩:=HCA.out j hj
        exact ⟨b4,e4,p2,(HOW.out b4 j p2).trans p3⟩
       case measure=>simp [intOf];omega
      ·obtain rfl:p=mz:=by omega
       have hb':Blk wr bm 4 (cellsB (setAll F zs)):=by
        have h:=hb
        rw [HMZ.out,List.take_length] at h
        exact h
       have HB9:=Lib.hid hb'
       have HN9:=Lib.hid hns
       clear hb hb' hns hx hca
       go_wp2_with fail
       go_roundw
       case rel=>exact ⟨q,(q:Int)-1,rfl,by omega,by go_num,setAll F zs,cnt+1,HB9.out,HST.out,by rw [setAll_len];exact HFL.out,HN9.out,by omega,HX.out⟩
       case measure=>simp [intOf]<;>omega
end Big
end Go.Proofs.YtaccjdbbkmhanaaGreatDoor
namespace Go.Proofs.YtaccjdbbkmhanaaGreatDoor
namespace Big
open Go.RowKit
set_option maxHeartbeats 4000000 in
set_option maxRecDepth 100000 in
theorem gnames_any (B g b:Nat) (w:World) (ns:List Nd) (nv:Value) (h:GrP B g b w ns nv) (i:Int):
  Calls Tryz.prog 43 #[.pointer (some ⟨g,0,none⟩),.int .i64 i] w (NamesPost ns i w):=by
 by_cases hi:0≤i∧i<(ns.length:Int)
 ·obtain ⟨k,rfl⟩:∃k:Nat,(k:Int)=i:=⟨i.toNat,by omega⟩
  exact gnames_in B g b w ns nv h k (by omega)
 have HO:=Lib.hid (NamesV.out (ns:=ns) (i:=i) (by omega))
 obtain ⟨k0,k1,f0,f1,hgz⟩:=h.blk.twoG
 obtain ⟨A,c,rfl⟩:=h.row.shape
 clear h
 by_cases h0:i<0
 ·have hd:decide (i<0)=true:=decide_eq_true h0
  clear hi
  go_enter Tryz.func43,Tryz.ntmps43
  go_wp2_with fail
  go_ret
  exact ⟨_,[],rfl,RArr.none_ w,HO.out,by decide,Ext.refl w⟩
 ·have hd:decide (i<0)=false:=decide_eq_false h0
  have h1:(ns.length:Int)≤i:=by omega
  have hd2:decide (i≥(ns.length:Int))=true:=decide_eq_true h1
  have hd3:decide ((ns.length:Int)≤i)=true:=decide_eq_true h1
  clear hi
  go_enter Tryz.func43,Tryz.ntmps43
  go_wp2_with fail
  go_ret
  exact ⟨_,[],rfl,RArr.none_ w,HO.out,by decide,Ext.refl w⟩
theorem set_selfB (l:List Bool) (i:Nat):l.set i (l.getD i false)=l:=by
 apply List.ext_getElem?
 intro j
 rw [List.getElem?_set]
 split
 ·rename_i h
  subst h
  split
  ·rename_i h
   rw [List.getD_eq_getElem?_getD,List.getElem?_eq_getElem h]
   rfl
  ·rename_i h
   rw [List.getElem?_eq_none (by omega)]
 ·rfl
def PartsGPost (ns:List Nd) (i:Nat) (w:World) (e:Ending) (w':World):Prop:=∃v L,e= .returned v∧ArrN w' v L∧(∀j,j∈L↔Reach ns i j)∧L.length≤ns.length∧Ext w w'
theorem range_filter (p:Nat→Bool) (k:Nat):(List.range (k+1)).filter p=(List.range k).filter p++(if p k then [k] else []):=by
 rw [List.range_succ,List.filter_append]
 congr 1
 cases h:p k<;>simp [h]
set_option maxHeartbeats 8000000 in
set_option maxRecDepth 100000 in
theorem rparts_in (B g:Nat) (w:World) (ns:List Nd) (rv:Value) (h:GrR B g w ns rv) (i:Nat) (hi:i<ns.length):
  Calls Tryz.prog 62 #[.pointer (some ⟨g,0,none⟩),.int .i64 (i:Int)] w (PartsGPost ns i w):=by
 have hfew:=h.few
 have HOK:=Lib.hid h.ok
 have HII:=Lib.hid hi
 have HHA:=Lib.hid (has_any B g w ns rv h (i:Int))
 rw [decide_eq_true (⟨by omega,by omega⟩:0≤(i:Int)∧(i:Int)<(ns.length:Int))] at HHA
 obtain ⟨A,c,hrv,hcl⟩:=h.row.read
 subst hrv
 have HCL:=Lib.hid hcl
 have HG:=Lib.hid h
 clear hcl h
 have hi0:(0:Int)≤(i:Int):=by omega
 obtain ⟨n,hnn⟩:∃n,n=ns.length:=⟨_,rfl⟩
 have HN:=Lib.hid hnn
 rw [←hnn] at HG hfew
 have hin:i<n:=by omega
 have himi:(i:Int)<(n:Int):=by omega
 have hmk:=run_makeB n (by omega)
 clear hi hnn
 go_enter Tryz.func62,Tryz.ntmps62
 go_wp2_with fail
 refine HHA.out.mono ?_
 rintro e w1 ⟨rfl,hx1⟩
 have HX1:=Lib.hid hx1
 obtain ⟨k0,f0,hgz⟩:=(HG.out.keep hx1).blk.oneG
 have z0:=(Blk.new w1 4 (cellsB (List.replicate n false))).cell i
 rw [get_cellsB _ _ (by rw [List.length_replicate];omega)] at z0
 have z1:=(Blk.new w1 4 (cellsB (List.replicate n false))).frozen i
 have hb1:=Blk.new w1 4 ((cellsB (List.replicate n false)).setIfInBounds i (.bool true))
 have HX2:=Lib.hid (HX1.out.alloc (.cells ((cellsB (List.replicate n false)).setIfInBounds i (.bool true)) 4))
 go_upto_region 5 with fail
 obtain ⟨w2,hw2⟩:∃w2,w2=w1.alloc (.cells ((cellsB (List.replicate n false)).setIfInBounds i (.bool true)) 4):=⟨_,rfl⟩
 rw [←hw2] at hb1 HX2
 rw [←hw2]
 rw [set_cellsB] at hb1
 obtain ⟨bm,hbm⟩:∃bm,bm=w1.heap.size:=⟨_,rfl⟩
 rw [←hbm] at hb1
 have HS2:=Lib.hid hb1
 have HBM:Hid (w.heap.size≤bm):=Lib.hid (by have:=hx1.size;omega)
 rw [←hbm]
 clear hw2 hb1 hmk k0 f0 hbm z0 z1 hx1 HX1 HHA
 go_wp2_with fail
 go_loopw [6] (fun s6 wr=>∃(k:Nat) (z:Int),z=(k:Int)-1∧k≤i+1∧s6= .int .i64 z∧∃(F:List Bool),Blk wr bm 4 (cellsB F)∧MarkedG ns i k F∧F.length=n∧Ext w wr) (fun s6 _=>(intOf s6+1).toNat)
 case atStart=>
  refine ⟨i+1,(i:Int),by omega,Nat.le_refl _,rfl,(List.replicate n false).set i true,HS2.out,?_,by simp,HX2.out⟩
  refine MarkedG.start HOK.out (by simp;exact hin) (by simp;rw [HN.out];exact Nat.le_refl _) (fun j hj=> ?_)
  rw [getD_setB]
  simp only [List.length_set,List.length_replicate] at hj ⊢
  have hf:(List.replicate n false).getD j false=false:=by
   rw [List.getD_eq_getElem?_getD,List.getElem?_replicate]
   split<;>rfl
  rw [hf,Bool.or_false,decide_eq_true_iff]
  exact ⟨fun h=>h.1,fun h=>⟨h,by omega⟩⟩
 case round=>
  clear HX2 HS2
  obtain ⟨k,z,hz,hkm,rfl,F,hb,hmk,hFl,hx⟩:=hrel
  have HX:=Lib.hid hx
  have HBK:=Lib.hid hb
  have HMK:=Lib.hid hmk
  have HFL:=Lib.hid hFl
  clear hx hb hmk hFl
  rcases k with _|q
  ·obtain rfl:z= -1:=by omega
   clear hz
   have hm0:decide ((-1:Int)≥0)=false:=by decide
   have HDN:=Lib.hid HMK.out.done
   have hwz:=HX.out.size
   have hbz:bm<wr.heap.size:=HBK.out.lt
   clear HMK
   go_wp2_with fail
   generalize wr=wa at *
   go_loopw [9,59] (fun s9 s59 wr=>∃k:Nat,k≤n∧s59= .int .i64 (k:Int)∧OwnN wa.heap.size wr s9 ((List.range k).filter (fun j=>F.getD j false))∧Ext wa wr) (fun _ s59 _=>n-(intOf s59).toNat)
   case atStart=>exact ⟨0,Nat.zero_le _,rfl,OwnN.nil _ _,Ext.refl wa⟩
   case round=>
    obtain ⟨k,hk,rfl,hown,hx⟩:=hrel
    have HO:=Lib.hid hown
    have HXR:=Lib.hid hx
    have hll:((List.range k).filter (fun j=>F.getD j false)).length≤k:=by
     have:=List.length_filter_le (fun j=>F.getD j false) (List.range k)
     rw [List.length_range] at this
     exact this
    obtain ⟨m9,A9,c9,rfl⟩:=hown.arr.shape
    by_cases hlt:k<n
    ·have z0:=(HBK.out.ext hx).cell k
     rw [get_cellsB _ _ (by rw [HFL.out];exact hlt)] at z0
     have HRF:=Lib.hid (range_filter (fun j=>F.getD j false) k)
     have hk0:(0:Int)≤(k:Int):=by omega
     have hk1:(k:Int)<(n:Int):=by omega
     have hwk:IntKind.i64.wrap ((k:Int)+1)=(k:Int)+1:=IntWalk.i64_in _ (by omega)
     have hgy:wa.heap.size≤wr.heap.size:=hx.size
     clear hown hx
     cases hFk:F.getD k false
     ·rw [hFk] at z0
      have hif:(if F.getD k false=true then [k] else [])=([]:List Nat):=by rw [hFk];rfl
      rw [hif,List.append_nil] at HRF
      clear hif hFk
      go_wp2_with fail
      go_roundw
      case rel=>exact ⟨k+1,hlt,by go_num,by rw [HRF.out];exact HO.out,HXR.out⟩
      case measure=>simp [intOf];omega
     ·rw [hFk] at z0
      have hif:(if F.getD k false=true then [k] else [])=[k]:=by rw [hFk];rfl
      rw [hif] at HRF
      clear hif hFk
      have HLM:Hid (((List.range k).filter (fun j=>F.getD j false)).length+[k].length≤2147483648):=Lib.hid (by rw [List.length_singleton];omega)
      go_wp2_with (at_builtin;go_must (refine wpList_appendN (B:=wa.heap.size) rfl _ _ rfl rfl (HO.out.ext ((Ext.refl _).alloc _)) rfl (ArrN.fresh1 _ _) HLM.out (by simp;omega) ?_;intro v' w' hown' hgr hb1';have HE:=Lib.hid (And.intro hown' ((HXR.out.alloc _).more hb1'));clear hown' hgr hb1'))
      go_roundw
      case rel=>exact ⟨k+1,hlt,by go_num,by rw [HRF.out];exact HE.out.1,HE.out.2⟩
      case measure=>simp [intOf];omega
    ·obtain rfl:k=n:=by omega
     have HME:Hid (∀j,j∈(List.range k).filter (fun j=>F.getD j false)↔Reach ns i j):=Lib.hid (fun j=>by
      rw [List.mem_filter,List.mem_range]
      constructor
      ·rintro ⟨h1,h2⟩
       exact (HDN.out j (by rw [HFL.out];exact h1)).1 h2
      ·intro h1
       have h2:=h1.le HOK.out
       have h3:=HII.out
       exact ⟨by have:=HN.out;omega,(HDN.out j (by rw [HFL.out];have:=HN.out;omega)).2 h1⟩)
     have HXE:=Lib.hid (HX.out.trans HXR.out)
     clear hown hx
     go_wp2_with fail
     go_ret
     exact ⟨_,_,rfl,HO.out.arr,HME.out,by rw [←HN.out];exact hll,HXE.out⟩
  ·obtain rfl:z=(q:Int):=by omega
   clear hz
   have hqn:q<ns.length:=by have:=HN.out;omega
   have hok:=HOK.out.2 q _ (List.getElem?_eq_getElem hqn)
   have hqF:q<F.length:=by rw [HFL.out];omega
   have HST:=Lib.hid (HMK.out.step HOK.out hqF)
   have hw1:IntKind.i64.wrap ((q:Int)-1)=(q:Int)-1:=IntWalk.i64_in _ (by omega)
   have hq0:(0:Int)≤(q:Int):=by omega
   have hqn2:(q:Int)<(n:Int):=by omega
   have hq1:decide ((q:Int)≥0)=true:=decide_eq_true hq0
   have hmg:markG ns q F=if F.getD q false then setAll F (argsG ns[q]) else F:=by
    unfold markG argsAt
    rw [List.getElem?_eq_getElem hqn]
   rw [hmg] at HST
   have HAL:=Lib.hid hok.args_lt
   have hal2:=hok.args_len
   have HGO:=Lib.hid (fun W=>rargs_any W ns[q] hok)
   obtain ⟨gb,o,rfl,hgw,hc⟩:=HCL.out (by have:=HN.out;omega)
   obtain ⟨p0,p1,p2,p3,p4⟩:=hc q hqn
   rw [←HX.out.cell hgw] at p0 p1 p2 p3 p4
   obtain ⟨k0,f0,hgz⟩:=(HG.out.keep HX.out).blk.oneG
   have hgr:gb<wr.heap.size:=Nat.lt_of_lt_of_le hgw HX.out.size
   generalize argsG ns[q]=zs at *
   generalize ns[q]=x at *
   clear hmg hok hc hqn
   obtain ⟨y0,y1,y2,y3,y4⟩:=x
   simp only [ndV] at HGO
   simp only at p0 p1 p2 p3 p4
   obtain ⟨s,hs⟩:∃s:ByteArray,s=⟨(y4:List UInt8).toArray⟩:=⟨_,rfl⟩
   have hst:str y4= .string s:=by rw [hs];rfl
   rw [hst] at p4 HGO
   clear hs hst
   have hbmw:bm<wr.heap.size:=HBK.out.lt
   have hwz:=HX.out.size
   have hb0:=HBM.out
   obtain ⟨mz,hmz⟩:∃mz,mz=zs.length:=⟨_,rfl⟩
   have HMZ:=Lib.hid hmz
   rw [←hmz] at hal2
   have HZ:Hid (∀j,j<mz→zs.getD j 0<q):=Lib.hid (fun j hj=>by
    rw [List.getD_eq_getElem?_getD,List.getElem?_eq_getElem (by omega)]
    exact HAL.out _ (List.getElem_mem _))
   have HTK:Hid (∀j,j<mz→zs.take (j+1)=zs.take j++[zs.getD j 0]):=Lib.hid (fun j hj=>by
    rw [List.take_succ_eq_append_getElem (by omega),List.getD_eq_getElem?_getD,List.getElem?_eq_getElem (by omega)]
    rfl)
   clear hmz
   go_wp2_with fail
   refine (HGO.out wr).mono ?_
   rintro e w6 ⟨A3,c3,rfl,hx6,hc3⟩
   rw [←HMZ.out] at hc3 ⊢
   have HX6:=Lib.hid (HX.out.trans hx6)
   have HB6:=Lib.hid (HBK.out.ext hx6)
   have HA6:Hid (∀j,j<mz→∃b3,A3=some ⟨b3,0,none⟩∧b3≠bm∧b3<w6.heap.size∧w6.cell? ⟨b3,j,none⟩=some (.int .i64 ((zs.getD j 0:Nat):Int))):=Lib.hid (fun j hj=>by
    obtain ⟨b3,h1,h2,h3,h4⟩:=hc3 (by omega)
    exact ⟨b3,h1,by omega,h3,h4 j hj⟩)
   clear p0 p1 p2 p3 p4 k0 f0 hx6 hc3 HGO HX HBK HMK
   cases hFq:F.getD q false
   ·rw [hFq] at HST
    have hFq2:=hFq
    clear hFq
    simp only [if_true,Bool.false_eq_true,if_false] at HST
    go_wp2_with fail
    generalize wr=wa at *
    go_loopw [39] (fun s39 wr=>∃p:Nat,p≤mz∧s39= .int .i64 (p:Int)∧Blk wr bm 4 (cellsB F)∧Ext w wr∧(∀j,j<mz→∃b3,A3=some ⟨b3,0,none⟩∧b3≠bm∧wr.cell? ⟨b3,j,none⟩=some (.int .i64 ((zs.getD j 0:Nat):Int)))) (fun s39 _=>mz-(intOf s39).toNat)
    case atStart=>exact ⟨0,Nat.zero_le _,rfl,HB6.out,HX6.out,fun j hj=>by
     obtain ⟨b3,h1,h2,_,h4⟩:=HA6.out j hj
     exact ⟨b3,h1,h2,h4⟩⟩
    case round=>
     clear HB6 HX6 HA6
     obtain ⟨p,hp,rfl,hb,hx,hca⟩:=hrel
     have HX:=Lib.hid hx
     by_cases hpz:p<mz
     ·obtain ⟨b3,rfl,hn1,hcell⟩:=hca p hpz
      have HCA:=Lib.hid hca
      have hlow:=HZ.out p hpz
      have hlen:=HFL.out
      have z1:=hb.cell (zs.getD p 0)
      rw [get_cellsB _ _ (by omega)] at z1
      have z2:=hb.cell q
      rw [get_cellsB _ _ (by omega),hFq2] at z2
      have f1:=hb.frozen (zs.getD p 0)
      have hs:=hb.set_ (zs.getD p 0) (.bool (F.getD (zs.getD p 0) false))
      rw [set_cellsB,set_selfB] at hs
      have HS:=Lib.hid hs
      have HXW:=Lib.hid (hx.setCell (p:=⟨bm,zs.getD p 0,none⟩) hb0 (.bool (F.getD (zs.getD p 0) false)))
      have HOW:Hid (∀b3 j,b3≠bm→(wr.setCell ⟨bm,zs.getD p 0,none⟩ (.bool (F.getD (zs.getD p 0) false))).cell? ⟨b3,j,none⟩=wr.cell? ⟨b3,j,none⟩):=Lib.hid (fun b3 j hne=>World.cell?_of_block (a:=⟨b3,j,none⟩) (Below.heap_setCell _ _ _ b3 hne))
      generalize F.getD (zs.getD p 0) false=old at *
      generalize hza:zs.getD p 0=za at *
      clear hza hb hx hca hs hlen
      have hp0:(0:Int)≤(p:Int):=by omega
      have hpm:(p:Int)<(mz:Int):=by omega
      have hza0:(0:Int)≤(za:Int):=by omega
      have hzam:(za:Int)<(n:Int):=by omega
      have hwp:IntKind.i64.wrap ((p:Int)+1)=(p:Int)+1:=IntWalk.i64_in _ (by omega)
      cases old
      all_goals
       go_wp2_with fail
       go_roundw
       case rel=>
        refine ⟨p+1,hpz,by go_num,HS.out,HXW.out,fun j hj=> ?_⟩
        obtain ⟨b4,e4,p2,p3⟩:=HCA.out j hj
        exact ⟨b4,e4,p2,(HOW.out b4 j p2).trans p3⟩
       case measure=>simp [intOf];omega
     ·obtain rfl:p=mz:=by omega
      have hb':Blk wr bm 4 (cellsB F):=by
       have h:=hb
       exact h
      have HB9:=Lib.hid hb'
      clear hb hb' hx hca
      go_wp2_with fail
      go_roundw
      case rel=>exact ⟨q,(q:Int)-1,rfl,by omega,by go_num,F,HB9.out,HST.out,by exact HFL.out,HX.out⟩
      case measure=>simp [intOf]<;>omega
   ·rw [hFq] at HST
    have hFq2:=hFq
    clear hFq
    simp only [if_true,Bool.false_eq_true,if_false] at HST
    go_wp2_with fail
    generalize wr=wa at *
    go_loopw [39] (fun s39 wr=>∃p:Nat,p≤mz∧s39= .int .i64 (p:Int)∧Blk wr bm 4 (cellsB (setAll F (zs.take p)))∧Ext w wr∧(∀j,j<mz→∃b3,A3=some ⟨b3,0,none⟩∧b3≠bm∧wr.cell? ⟨b3,j,none⟩=some (.int .i64 ((zs.getD j 0:Nat):Int)))) (fun s39 _=>mz-(intOf s39).toNat)
    case atStart=>exact ⟨0,Nat.zero_le _,rfl,HB6.out,HX6.out,fun j hj=>by
     obtain ⟨b3,h1,h2,_,h4⟩:=HA6.out j hj
     exact ⟨b3,h1,h2,h4⟩⟩
    case round=>
     clear HB6 HX6 HA6
     obtain ⟨p,hp,rfl,hb,hx,hca⟩:=hrel
     have HX:=Lib.hid hx
     by_cases hpz:p<mz
     ·obtain ⟨b3,rfl,hn1,hcell⟩:=hca p hpz
      have HCA:=Lib.hid hca
      have hlow:=HZ.out p hpz
      have hsa:=setAll_snoc (zs.take p) (zs.getD p 0) F
      rw [←HTK.out p hpz] at hsa
      have hlen:=setAll_len (zs.take p) F
      rw [HFL.out] at hlen
      have hqv:(setAll F (zs.take p)).getD q false=true:=by rw [getD_setAll _ _ _ hqF,hFq2,Bool.or_true]
      have z1:=hb.cell (zs.getD p 0)
      rw [get_cellsB _ _ (by omega)] at z1
      have z2:=hb.cell q
      rw [get_cellsB _ _ (by omega),hqv] at z2
      have f1:=hb.frozen (zs.getD p 0)
      have hs:=hb.set_ (zs.getD p 0) (.bool true)
      rw [set_cellsB,←hsa] at hs
      have HS:=Lib.hid hs
      have HXW:=Lib.hid (hx.setCell (p:=⟨bm,zs.getD p 0,none⟩) hb0 (.bool true))
      have HOW:Hid (∀b3 j,b3≠bm→(wr.setCell ⟨bm,zs.getD p 0,none⟩ (.bool true)).cell? ⟨b3,j,none⟩=wr.cell? ⟨b3,j,none⟩):=Lib.hid (fun b3 j hne=>World.cell?_of_block (a:=⟨b3,j,none⟩) (Below.heap_setCell _ _ _ b3 hne))
      generalize (setAll F (zs.take p)).getD (zs.getD p 0) false=old at *
      generalize hza:zs.getD p 0=za at *
      clear hza hb hx hca hs hlen hsa hqv
      have hp0:(0:Int)≤(p:Int):=by omega
      have hpm:(p:Int)<(mz:Int):=by omega
      have hza0:(0:Int)≤(za:Int):=by omega
      have hzam:(za:Int)<(n:Int):=by omega
      have hwp:IntKind.i64.wrap ((p:Int)+1)=(p:Int)+1:=IntWalk.i64_in _ (by omega)
      cases old
      all_goals
       go_wp2_with fail
       go_roundw
       case rel=>
        refine ⟨p+1,hpz,by go_num,HS.out,HXW.out,fun j hj=> ?_⟩
        obtain ⟨b4,e4,p2,p3⟩:=HCA.out j hj
        exact ⟨b4,e4,p2,(HOW.out b4 j p2).trans p3⟩
       case measure=>simp [intOf];omega
     ·obtain rfl:p=mz:=by omega
      have hb':Blk wr bm 4 (cellsB (setAll F zs)):=by
       have h:=hb
       rw [HMZ.out,List.take_length] at h
       exact h
      have HB9:=Lib.hid hb'
      clear hb hb' hx hca
      go_wp2_with fail
      go_roundw
      case rel=>exact ⟨q,(q:Int)-1,rfl,by omega,by go_num,(setAll F zs),HB9.out,HST.out,by rw [setAll_len];exact HFL.out,HX.out⟩
      case measure=>simp [intOf]<;>omega
end Big
end Go.Proofs.YtaccjdbbkmhanaaGreatDoor
namespace Go.Proofs.YtaccjdbbkmhanaaGreatDoor
namespace Big
open Go.RowKit
end Big
end Go.Proofs.YtaccjdbbkmhanaaGreatDoor
namespace Go.Proofs.YtaccjdbbkmhanaaGreatDoor
namespace Big
open Go.RowKit
theorem RNd.shape {w:World} {v:Value} {l:List Nd} (h:RNd w v l):∃A c,v= .slice A l.length c:=by
 obtain ⟨A,c,h,_⟩:=h
 exact ⟨A,c,h⟩
end Big
end Go.Proofs.YtaccjdbbkmhanaaGreatDoor
