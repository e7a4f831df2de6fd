import Derived.Test.YtaccjdbbkmhanaaGreatDoorM36
import Derived.Test.YtaccjdbbkmhanaaGreatDoorM9
import Derived.Test.YtaccjdbbkmhanaaGreatDoorM38
import Derived.Test.YtaccjdbbkmhanaaGreatDoorM39
import Derived.Laws.StructEq
import Derived.Test.YtaccjdbbkmhanaaGreatDoorM35
namespace Go.Proofs.YtaccjdbbkmhanaaGreatDoor
namespace Big
open Go.RowKit
def SaysNd (l m:List Nd) (w:World) (e:Ending) (w':World):Prop:=∃r:Bool,e= .returned (.bool r)∧(r=true↔l=m)∧Dr w w'
theorem take_stepN {l m:List Nd} {k:Nat} (h:l.take k=m.take k) (h1:k<l.length) (h2:k<m.length) (he:l[k]=m[k]):l.take (k+1)=m.take (k+1):=by
 rw [List.take_succ_eq_append_getElem h1,List.take_succ_eq_append_getElem h2,h,he]
theorem ne_of_getN {l m:List Nd} {k:Nat} (h1:k<l.length) (h2:k<m.length) (he:l[k]≠m[k]):l≠m:=fun e=>he (by subst e;rfl)
theorem SaysNd.no {l m:List Nd} {w w':World} {e:Ending} (he:e= .returned (.bool false)) (h:l≠m) (hd:Dr w w'):SaysNd l m w e w':=⟨false,he,⟨fun h'=>Bool.noConfusion h',fun h'=>absurd h' h⟩,hd⟩
theorem SaysNd.yes {l m:List Nd} {w w':World} {e:Ending} (he:e= .returned (.bool true)) (h:l=m) (hd:Dr w w'):SaysNd l m w e w':=⟨true,he,⟨fun _=>h,fun _=>rfl⟩,hd⟩
set_option maxHeartbeats 4000000 in
set_option maxRecDepth 100000 in
theorem rsameD_any (w:World) (v u:Value) (l m:List Nd) (h:RNd w v l) (h':RNd w u m) (hn:l.length≤1000000) (hn2:m.length≤1000000):Calls Tryz.prog 13 #[v,u] w (SaysNd l m w):=by
 obtain ⟨A,c,rfl,H1⟩:=h
 obtain ⟨A',c',rfl,H2⟩:=h'
 have HH1:=Lib.hid H1
 have HH2:=Lib.hid H2
 clear H1 H2
 obtain ⟨n,hnn⟩:∃n,n=l.length:=⟨_,rfl⟩
 have HN:=Lib.hid hnn
 rw [←hnn] at hn ⊢
 clear hnn
 obtain ⟨q,hqq⟩:∃q,q=m.length:=⟨_,rfl⟩
 have HQ:=Lib.hid hqq
 rw [←hqq] at hn2 ⊢
 clear hqq
 by_cases hl:n=q
 ·subst hl
  have hne0:((n:Int) != (n:Int))=false:=by simp
  have hne1:((n:Int) == (n:Int))=true:=by simp
  go_enter Tryz.func13,Tryz.ntmps13
  go_wp2_with fail
  go_loopw [8] (fun s8 wr=>∃i:Nat,i≤n∧s8= .int .i64 (i:Int)∧Hid (l.take i=m.take i)∧Dr w wr) (fun s8 _=>n-(intOf s8).toNat)
  case atStart=>exact ⟨0,Nat.zero_le _,rfl,Lib.hid rfl,Dr.refl w⟩
  case round=>
   obtain ⟨i,hi,rfl,HTK,hd⟩:=hrel
   have HD:=Lib.hid hd
   by_cases hlt:i<n
   ·have hit:i<l.length:=by rw [←HN.out];exact hlt
    have hit2:i<m.length:=by rw [←HQ.out];exact hlt
    obtain ⟨g,o,rfl,hgw,hc⟩:=HH1.out (by omega)
    obtain ⟨g',o',rfl,hgw',hc'⟩:=HH2.out (by omega)
    obtain ⟨k0,k1,k2,k3,k4⟩:=hc i hit
    obtain ⟨j0,j1,j2,j3,j4⟩:=hc' i hit2
    rw [←hd.cell] at k0 k1 k2 k3 k4 j0 j1 j2 j3 j4
    have HST:=Lib.hid (fun he=>take_stepN HTK.out hit hit2 he)
    have HNG:=Lib.hid (fun he=>ne_of_getN hit hit2 he)
    clear hc hc' hd
    have hd0:decide ((0:Int)≤(i:Int))=true:=by simp
    have hi0:(0:Int)≤(i:Int):=by omega
    have hil:(i:Int)<(n:Int):=by omega
    generalize l[i]=x at *
    generalize m[i]=z at *
    clear hit hit2
    obtain ⟨y0,y1,y2,y3,y4⟩:=x
    obtain ⟨z0,z1,z2,z3,z4⟩:=z
    simp only at k0 k1 k2 k3 k4 j0 j1 j2 j3 j4
    have hsy:str y4= .string ⟨y4.toArray⟩:=rfl
    have hsz:str z4= .string ⟨z4.toArray⟩:=rfl
    rw [hsy] at k4
    rw [hsz] at j4
    have hty:(⟨y4.toArray⟩:ByteArray).toList=y4:=ByteArray.toList_mk _
    have htz:(⟨z4.toArray⟩:ByteArray).toList=z4:=ByteArray.toList_mk _
    have HTY:=Lib.hid hty
    have HTZ:=Lib.hid htz
    clear hsy hsz hty htz
    by_cases e0:y0=z0
    case neg=>
     have b0:(y0 == z0)=false:=by rw [beq_eq_false_iff_ne];exact e0
     have c0:(y0 != z0)=true:=by rw [bne_iff_ne];exact e0
     have HN2:=Lib.hid (HNG.out (fun he=>e0 (by injection he)))
     clear e0 HST HNG
     go_wp2_with fail
     go_quiet (fail)
     go_wp2_with fail
     go_ret
     exact SaysNd.no rfl HN2.out (HD.out.drewN _)
    case pos=>
     subst e0
     by_cases e1:y1=z1
     case neg=>
      have b1:(y1 == z1)=false:=by rw [beq_eq_false_iff_ne];exact e1
      have c1:(y1 != z1)=true:=by rw [bne_iff_ne];exact e1
      have HN2:=Lib.hid (HNG.out (fun he=>e1 (by injection he)))
      clear e1 HST HNG
      go_wp2_with fail
      go_quiet (fail)
      go_wp2_with fail
      go_ret
      exact SaysNd.no rfl HN2.out (HD.out.drewN _)
     case pos=>
      subst e1
      by_cases e2:y2=z2
      case neg=>
       have b2:(y2 == z2)=false:=by rw [beq_eq_false_iff_ne];exact e2
       have c2:(y2 != z2)=true:=by rw [bne_iff_ne];exact e2
       have HN2:=Lib.hid (HNG.out (fun he=>e2 (by injection he)))
       clear e2 HST HNG
       go_wp2_with fail
       go_quiet (fail)
       go_wp2_with fail
       go_ret
       exact SaysNd.no rfl HN2.out (HD.out.drewN _)
      case pos=>
       subst e2
       by_cases e3:y3=z3
       case neg=>
        have b3:(y3 == z3)=false:=by rw [beq_eq_false_iff_ne];exact e3
        have c3:(y3 != z3)=true:=by rw [bne_iff_ne];exact e3
        have HN2:=Lib.hid (HNG.out (fun he=>e3 (by injection he)))
        clear e3 HST HNG
        go_wp2_with fail
        go_quiet (fail)
        go_wp2_with fail
        go_ret
        exact SaysNd.no rfl HN2.out (HD.out.drewN _)
       case pos=>
        subst e3
        by_cases e4:y4=z4
        case neg=>
         have b4:((⟨y4.toArray⟩:ByteArray).toList == (⟨z4.toArray⟩:ByteArray).toList)=false:=by rw [HTY.out,HTZ.out,beq_eq_false_iff_ne];exact e4
         have HN2:=Lib.hid (HNG.out (fun he=>e4 (by injection he)))
         clear e4 HST HNG
         generalize (⟨y4.toArray⟩:ByteArray)=ty at *
         generalize (⟨z4.toArray⟩:ByteArray)=tz at *
         go_wp2_with fail
         go_quiet (fail)
         go_wp2_with fail
         go_ret
         exact SaysNd.no rfl HN2.out (HD.out.drewN _)
        case pos=>
         subst e4
         have HS2:=Lib.hid (HST.out rfl)
         generalize (⟨y4.toArray⟩:ByteArray)=ty at *
         clear HST HNG
         go_wp2_with fail
         go_quiet (fail)
         go_wp2_with fail
         go_roundw
         case rel=>exact ⟨i+1,by omega,by go_num,HS2,HD.out.drewN _⟩
         case measure=>simp [intOf];omega
   ·obtain rfl:i=n:=by omega
    have HE:Hid (l=m):=Lib.hid (by
     have h1:=HTK.out
     rw [List.take_of_length_le (by rw [←HN.out];exact Nat.le_refl _),List.take_of_length_le (by rw [←HQ.out];exact Nat.le_refl _)] at h1
     exact h1)
    clear hd
    go_wp2_with fail
    go_ret
    exact SaysNd.yes rfl HE.out HD.out
 ·have HNE:Hid (l≠m):=Lib.hid (fun e=>hl (by rw [HN.out,HQ.out,e]))
  have hb:((n:Int) != (q:Int))=true:=by rw [bne_iff_ne];omega
  have hb2:((n:Int) == (q:Int))=false:=by rw [beq_eq_false_iff_ne];omega
  clear hl
  go_enter Tryz.func13,Tryz.ntmps13
  go_wp2_with fail
  go_loopw [8] (fun s8 wr=>s8= .int .i64 0∧Dr w wr) (fun s8 _=>n-(intOf s8).toNat)
  case atStart=>exact ⟨rfl,Dr.refl w⟩
  case round=>
   obtain ⟨rfl,hd⟩:=hrel
   have HD:=Lib.hid hd
   clear hd
   by_cases hlt:0<n
   ·go_wp2_with fail
    go_quiet (fail)
    go_wp2_with fail
    go_ret
    exact SaysNd.no rfl HNE.out (HD.out.drewN _)
   ·go_wp2_with fail
    go_ret
    exact SaysNd.no rfl HNE.out HD.out
end Big
end Go.Proofs.YtaccjdbbkmhanaaGreatDoor
namespace Go.Proofs.YtaccjdbbkmhanaaGreatDoor
namespace Big
open Go.RowKit
set_option maxRecDepth 100000 in
theorem msame_any (w:World) (v u:Value) (ls ms:List (List UInt8)) (h:ArrS w v ls) (h':ArrS w u ms) (hn:ls.length≤1073741824) (hn':ms.length≤1073741824):
  Calls Tryz.prog 42 #[v,u] w fun e w'=>e= .returned (.bool (decide (ls=ms)))∧Ext w w':=by
 obtain ⟨A,c,rfl,hc,hm,hcell⟩:=h.open
 obtain ⟨A',c',rfl,hc',hm',hcell'⟩:=h'.open
 have HC:=Lib.hid hcell
 have HC':=Lib.hid hcell'
 clear hcell hcell' hm hm' hc hc' h h'
 by_cases hl:ls.length=ms.length
 ·have hb:((ls.length:Int) != (ms.length:Int))=false:=by rw [hl];simp
  have hb2:((ls.length:Int) == (ms.length:Int))=true:=by rw [hl];simp
  have HL:=Lib.hid hl
  clear hl
  go_enter Tryz.func42,Tryz.ntmps42
  go_wp2_with fail
  go_loopw [8] (fun i wr=>∃k:Nat,k≤ls.length∧i= .int .i64 k∧Hid (ls.take k=ms.take k)∧Ext w wr) (fun i _=>ls.length-(intOf i).toNat)
  case atStart=>exact ⟨0,by omega,rfl,rfl,Ext.refl _⟩
  case round=>
   obtain ⟨k,hk,rfl,HK,hext⟩:=hrel
   by_cases hlt:k<ls.length
   ·have hlt2:k<ms.length:=by have:=HL.out;omega
    obtain ⟨b,o,rfl,hbk,hcell⟩:=HC.out (by omega)
    obtain ⟨b',o',rfl,hbk',hcell'⟩:=HC'.out (by omega)
    have hx:=(hext.cell hbk).trans (hcell k hlt)
    have hy:=(hext.cell hbk').trans (hcell' k hlt2)
    have HST:=Lib.hid (fun he=>take_step HK.out hlt hlt2 he)
    have HNE:Hid (ls[k]≠ms[k]→decide (ls=ms)=false):=Lib.hid (fun he=>by
     rw [decide_eq_false_iff_not]
     intro e
     subst e
     exact he rfl)
    clear hcell hcell'
    generalize ls[k]=x at *
    generalize ms[k]=y at *
    have HX:=Lib.hid hext
    clear hext
    have h0:(0:Int)≤(k:Int):=by omega
    have h1:(k:Int)<(ls.length:Int):=by omega
    have h2:(k:Int)<(ms.length:Int):=by omega
    by_cases he:x=y
    ·subst he
     have HT:=Lib.hid (HST.out rfl)
     go_wp2_with fail
     go_quiet (fail)
     go_wp2_with fail
     go_roundw
     case rel=>exact ⟨k+1,by omega,by go_num,HT,HX.out.drewN _⟩
     case measure=>simp [intOf];omega
    ·have hxy:(x == y)=false:=by rw [beq_eq_false_iff_ne];exact he
     have HD:=Lib.hid (HNE.out he)
     clear he
     go_wp2_with fail
     go_quiet (fail)
     go_wp2_with fail
     go_ret
     rw [HD.out]
     exact ⟨rfl,HX.out.drewN _⟩
   ·obtain rfl:k=ls.length:=by omega
    have HD:Hid (decide (ls=ms)=true):=Lib.hid (by
     rw [decide_eq_true_iff]
     have h1:=HK.out
     rw [List.take_of_length_le (Nat.le_refl _),List.take_of_length_le (by rw [HL.out];exact Nat.le_refl _)] at h1
     exact h1)
    go_wp2_with fail
    go_ret
    rw [HD.out]
    exact ⟨rfl,hext⟩
 ·have hb:((ls.length:Int) != (ms.length:Int))=true:=by rw [bne_iff_ne];omega
  have hb2:((ls.length:Int) == (ms.length:Int))=false:=by rw [beq_eq_false_iff_ne];omega
  have HD:Hid (decide (ls=ms)=false):=Lib.hid (by
   rw [decide_eq_false_iff_not]
   intro e
   exact hl (by rw [e]))
  clear hl
  go_enter Tryz.func42,Tryz.ntmps42
  go_wp2_with fail
  go_loopw [8] (fun i wr=>i= .int .i64 0∧Ext w wr) (fun i _=>ls.length-(intOf i).toNat)
  case atStart=>exact ⟨rfl,Ext.refl _⟩
  case round=>
   obtain ⟨rfl,hext⟩:=hrel
   by_cases hlt:0<ls.length
   ·have HX:=Lib.hid hext
    clear hext
    go_wp2_with fail
    go_quiet (fail)
    go_wp2_with fail
    go_ret
    rw [HD.out]
    exact ⟨rfl,HX.out.drewN _⟩
   ·go_wp2_with fail
    go_ret
    rw [HD.out]
    exact ⟨rfl,hext⟩
end Big
end Go.Proofs.YtaccjdbbkmhanaaGreatDoor
namespace Go.Proofs.YtaccjdbbkmhanaaGreatDoor
namespace Big
open Go.RowKit
set_option maxHeartbeats 8000000 in
set_option maxRecDepth 100000 in
theorem same21_any (B g b B' gr:Nat) (w:World) (ns:List Nd) (nv rv:Value) (h:GrP B g b w ns nv) (h':GrR B' gr w ns rv):
  Calls Tryz.prog 20 #[.pointer (some ⟨g,0,none⟩),.pointer (some ⟨gr,0,none⟩)] w fun e w'=>e= .returned (.bool true)∧Ext w w':=by
 have hfew:=h.few
 have HLE:=Lib.hid (fun W (hx:Ext w W)=>(glen_any B g b W ns nv (h.keep hx)).mono (fun e w' ⟨p,q⟩=>(⟨p,by rw [←q];exact Ext.refl W⟩:e=Ending.returned (.int .i64 (ns.length:Int))∧Ext W w')))
 have HND:=Lib.hid (fun W (hx:Ext w W)=>gnodes_any B g b W ns nv (h.keep hx))
 have HSM:=Lib.hid (fun W v (hx:Ext w W) (hr:RNd W v ns)=>(rsameD_any W v rv ns ns hr ((h'.keep hx).row.read) (by omega) (by omega)).mono (fun e w' ⟨r,p,q,d⟩=>(⟨by rw [p,q.2 rfl],d.ext⟩:e=Ending.returned (.bool true)∧Ext W w')))
 have HNO:=Lib.hid (fun W (i:Int) (hx:Ext w W)=>gnode_any B g b W ns nv (h.keep hx) i)
 have HHA:=Lib.hid (fun W (i:Int) (hx:Ext w W)=>has_any B' gr W ns rv (h'.keep hx) i)
 have HDG:=Lib.hid (fun W (i:Int) (hx:Ext w W)=>gdepth_any B g b W ns nv (h.keep hx) i)
 have HDR:=Lib.hid (fun W (i:Int) (hx:Ext w W)=>rdepth_any B' gr W ns rv (h'.keep hx) i)
 have HNG:=Lib.hid (fun W (i:Int) (hx:Ext w W)=>gnames_any B g b W ns nv (h.keep hx) i)
 have HNR:=Lib.hid (fun W (i:Int) (hx:Ext w W)=>rnames_anyG B' gr W ns rv (h'.keep hx) i)
 unfold NamesPost at HNG HNR
 have HST:=Lib.hid (fun (W:World) v u l (h1:ArrS W v l) (h2:ArrS W u l) (hl:l.length≤1000000)=>(msame_any W v u l l h1 h2 (by omega) (by omega)).mono (fun e w' ⟨p,q⟩=>(⟨by rw [p,decide_eq_true rfl],q⟩:e=Ending.returned (.bool true)∧Ext W w')))
 have HOK:=Lib.hid h.ok
 obtain ⟨j0,j1,jhz⟩:=h'.blk.oneG
 have HJ:=Lib.hid j0
 obtain ⟨A,c,hrv,hcl⟩:=h'.row.read
 subst hrv
 have HCL:=Lib.hid hcl
 have HVI:=Lib.hid (fun (k:Nat) (hk:k<ns.length)=>nodeV_in hk)
 have HVO:=Lib.hid (fun (i:Int) (hi:i<0∨(ns.length:Int)≤i)=>nodeV_out hi)
 have hE:ndV ⟨0,0,0,0,[]⟩= .agg #[.int .i64 0,.int .i64 0,.int .i64 0,.int .i64 0,.string ⟨#[]⟩]:=rfl
 rw [hE] at HVO
 have hgz:=h.lt
 clear h h' hcl j0 j1 hE
 go_enter Tryz.func20,Tryz.ntmps20
 go_upto_region 1 with fail
 refine wp_region_held_drew (S:=fun w'=>Ext w w'∧w'.cell? ⟨gr,0,none⟩=some (.slice A ns.length c)) (by kernel_rfl) (by exact kept1_drew HJ.out) (fun hHeld=> ?_)
 refine' wpAnyH_take (i:=0) (oi:=⟨some 8,_,_,_,_,_⟩) (v:=_) rfl (by kernel_rfl) (by kernel_rfl) (by kernel_rfl) (fun _ _ _ h=>h) (Or.inl ⟨by rfl,?_⟩) hHeld ?_
 rotate_left
 ·(intro w' hSw;(try dsimp only at hSw);go_simp;(try with_reducible rfl))
 try simp only [Act.put,List.setIfInBounds_toArray,List.set_cons_zero,List.set_cons_succ]
 refine' wpAnyH_take (i:=1) (oi:=⟨some 9,_,_,_,_,_⟩) (v:=_) rfl (by kernel_rfl) (by kernel_rfl) (by kernel_rfl) (fun _ _ _ h=>h) (Or.inl ⟨by rfl,?_⟩) hHeld ?_
 rotate_left
 ·(intro w' hSw;(try dsimp only at hSw);go_simp;(try with_reducible rfl))
 try simp only [Act.put,List.setIfInBounds_toArray,List.set_cons_zero,List.set_cons_succ]
 refine' wpAnyH_take (i:=2) (oi:=⟨some 10,_,_,_,_,_⟩) (v:=_) rfl (by kernel_rfl) (by kernel_rfl) (by kernel_rfl) (fun _ _ _ h=>h) (Or.inl ⟨by rfl,?_⟩) hHeld ?_
 rotate_left
 ·(intro w' hSw;(try dsimp only at hSw);go_simp;(try with_reducible rfl))
 try simp only [Act.put,List.setIfInBounds_toArray,List.set_cons_zero,List.set_cons_succ]
 refine' wpAnyH_take (i:=4) (oi:=⟨some 12,_,_,_,_,_⟩) (v:=_) rfl (by kernel_rfl) (by kernel_rfl) (by kernel_rfl) (fun _ _ _ h=>h) (Or.inl ⟨by rfl,?_⟩) hHeld ?_
 rotate_left
 ·(intro w' hSw;(try dsimp only at hSw);go_simp;(try with_reducible rfl))
 try simp only [Act.put,List.setIfInBounds_toArray,List.set_cons_zero,List.set_cons_succ]
 refine' wpAnyH_take (i:=5) (oi:=⟨some 13,_,_,_,_,_⟩) (v:=_) rfl (by kernel_rfl) (by kernel_rfl) (by kernel_rfl) (fun _ _ _ h=>h) (Or.inl ⟨by rfl,?_⟩) hHeld ?_
 rotate_left
 ·(intro w' hSw;(try dsimp only at hSw);go_simp;(try with_reducible rfl))
 try simp only [Act.put,List.setIfInBounds_toArray,List.set_cons_zero,List.set_cons_succ]
 refine' wpAnyH_take (i:=6) (oi:=⟨some 14,_,_,_,_,_⟩) (v:=_) rfl (by kernel_rfl) (by kernel_rfl) (by kernel_rfl) (fun _ _ _ h=>h) (Or.inl ⟨by rfl,?_⟩) hHeld ?_
 rotate_left
 ·(intro w' hSw;(try dsimp only at hSw);go_simp;(try with_reducible rfl))
 try simp only [Act.put,List.setIfInBounds_toArray,List.set_cons_zero,List.set_cons_succ]
 refine' wpAnyH_take (i:=7) (oi:=⟨some 15,_,_,_,_,_⟩) (v:=_) rfl (by kernel_rfl) (by kernel_rfl) (by kernel_rfl) (fun _ _ _ h=>h) (Or.inl ⟨by rfl,?_⟩) hHeld ?_
 rotate_left
 ·(intro w' hSw;(try dsimp only at hSw);go_simp;(try with_reducible rfl))
 try simp only [Act.put,List.setIfInBounds_toArray,List.set_cons_zero,List.set_cons_succ]
 refine' wpAnyH_take (i:=8) (oi:=⟨some 16,_,_,_,_,_⟩) (v:=_) rfl (by kernel_rfl) (by kernel_rfl) (by kernel_rfl) (fun _ _ _ h=>h) (Or.inl ⟨by rfl,?_⟩) hHeld ?_
 rotate_left
 ·(intro w' hSw;(try dsimp only at hSw);go_simp;(try with_reducible rfl))
 try simp only [Act.put,List.setIfInBounds_toArray,List.set_cons_zero,List.set_cons_succ]
 refine wpAnyH_ready (rs:=[3]) (by kernel_rfl) (by simp) ?_
 refine AllReadyH.cons (i:=3) rfl (fun K hK=> ?_) AllReadyH.nil
 go_simp
 (go_at_call 12;refine (HLE.out _ hHeld.1).mono ?_;rintro e w5 ⟨rfl,hx5⟩)
 try go_wp2_with fail
 refine hK.out _ _ ?_ (fun hHeld=> ?_)
 ·exact kept1 hHeld hx5
 clear hK K
 try simp only [Act.put,List.setIfInBounds_toArray,List.set_cons_zero,List.set_cons_succ]
 refine' wpAnyH_take (i:=9) (oi:=⟨some 17,_,_,_,_,_⟩) (v:=_) rfl (by kernel_rfl) (by kernel_rfl) (by kernel_rfl) (fun _ _ _ h=>h) (Or.inl ⟨by rfl,?_⟩) hHeld ?_
 rotate_left
 ·(intro w' hSw;(try dsimp only at hSw);go_simp;(try with_reducible rfl))
 try simp only [Act.put,List.setIfInBounds_toArray,List.set_cons_zero,List.set_cons_succ]
 refine' wpAnyH_take (i:=10) (oi:=⟨some 18,_,_,_,_,_⟩) (v:=_) rfl (by kernel_rfl) (by kernel_rfl) (by kernel_rfl) (fun _ _ _ h=>h) (Or.inl ⟨by rfl,?_⟩) hHeld ?_
 rotate_left
 ·(intro w' hSw;(try dsimp only at hSw);go_simp;(try with_reducible rfl))
 try simp only [Act.put,List.setIfInBounds_toArray,List.set_cons_zero,List.set_cons_succ]
 refine' wpAnyH_take (i:=11) (oi:=⟨some 19,_,_,_,_,_⟩) (v:=_) rfl (by kernel_rfl) (by kernel_rfl) (by kernel_rfl) (fun _ _ _ h=>h) (Or.inl ⟨by rfl,?_⟩) hHeld ?_
 rotate_left
 ·(intro w' hSw;(try dsimp only at hSw);go_simp;(try with_reducible rfl))
 try simp only [Act.put,List.setIfInBounds_toArray,List.set_cons_zero,List.set_cons_succ]
 refine' wpAnyH_take (i:=13) (oi:=⟨some 21,_,_,_,_,_⟩) (v:=_) rfl (by kernel_rfl) (by kernel_rfl) (by kernel_rfl) (fun _ _ _ h=>h) (Or.inl ⟨by rfl,?_⟩) hHeld ?_
 rotate_left
 ·(intro w' hSw;(try dsimp only at hSw);go_simp;(try with_reducible rfl))
 try simp only [Act.put,List.setIfInBounds_toArray,List.set_cons_zero,List.set_cons_succ]
 refine' wpAnyH_take (i:=14) (oi:=⟨some 22,_,_,_,_,_⟩) (v:=_) rfl (by kernel_rfl) (by kernel_rfl) (by kernel_rfl) (fun _ _ _ h=>h) (Or.inl ⟨by rfl,?_⟩) hHeld ?_
 rotate_left
 ·(intro w' hSw;(try dsimp only at hSw);go_simp;(try with_reducible rfl))
 try simp only [Act.put,List.setIfInBounds_toArray,List.set_cons_zero,List.set_cons_succ]
 refine' wpAnyH_take (i:=15) (oi:=⟨some 23,_,_,_,_,_⟩) (v:=_) rfl (by kernel_rfl) (by kernel_rfl) (by kernel_rfl) (fun _ _ _ h=>h) (Or.inl ⟨by rfl,?_⟩) hHeld ?_
 rotate_left
 ·(intro w' hSw;(try dsimp only at hSw);go_simp;(try with_reducible rfl))
 try simp only [Act.put,List.setIfInBounds_toArray,List.set_cons_zero,List.set_cons_succ]
 refine' wpAnyH_take (i:=16) (oi:=⟨some 24,_,_,_,_,_⟩) (v:=_) rfl (by kernel_rfl) (by kernel_rfl) (by kernel_rfl) (fun _ _ _ h=>h) (Or.inl ⟨by rfl,?_⟩) hHeld ?_
 rotate_left
 ·(intro w' hSw;(try dsimp only at hSw);go_simp;(try with_reducible rfl))
 try simp only [Act.put,List.setIfInBounds_toArray,List.set_cons_zero,List.set_cons_succ]
 refine wpAnyH_ready (rs:=[12]) (by kernel_rfl) (by simp) ?_
 refine AllReadyH.cons (i:=12) rfl (fun K hK=> ?_) AllReadyH.nil
 go_simp
 (go_at_call 19;refine (HND.out _ hHeld.1).mono ?_;rintro e w6 ⟨v6,rfl,ho6,hx6⟩;have HO6:=Lib.hid ho6.read;obtain ⟨A6,c6,rfl⟩:=ho6.shape;clear ho6)
 try go_wp2_with fail
 refine hK.out _ _ ?_ (fun hHeld=> ?_)
 ·exact kept1 hHeld hx6
 clear hK K
 try simp only [Act.put,List.setIfInBounds_toArray,List.set_cons_zero,List.set_cons_succ]
 refine wpAnyH_ready (rs:=[17]) (by kernel_rfl) (by simp) ?_
 refine AllReadyH.cons (i:=17) rfl (fun K hK=> ?_) AllReadyH.nil
 go_simp
 (go_at_call 13;refine (HSM.out _ _ hHeld.1 HO6.out).mono ?_;rintro e w7 ⟨rfl,hx7⟩)
 try go_wp2_with fail
 refine hK.out _ _ ?_ (fun hHeld=> ?_)
 ·exact kept1 hHeld hx7
 clear hK K
 try simp only [Act.put,List.setIfInBounds_toArray,List.set_cons_zero,List.set_cons_succ]
 refine' wpAnyH_take (i:=18) (oi:=⟨some 26,_,_,_,_,_⟩) (v:=_) rfl (by kernel_rfl) (by kernel_rfl) (by kernel_rfl) (fun _ _ _ h=>h) (Or.inl ⟨by rfl,?_⟩) hHeld ?_
 rotate_left
 ·(intro w' hSw;(try dsimp only at hSw);go_simp;(try with_reducible rfl))
 try simp only [Act.put,List.setIfInBounds_toArray,List.set_cons_zero,List.set_cons_succ]
 refine wpAnyH_ready (rs:=[19]) (by kernel_rfl) (by simp) ?_
 refine AllReadyH.cons (i:=19) rfl (fun K hK=> ?_) AllReadyH.nil
 go_simp
 try go_wp2_with fail
 refine hK.out _ _ ?_ (fun hHeld=> ?_)
 ·exact hHeld
 clear hK K
 try simp only [Act.put,List.setIfInBounds_toArray,List.set_cons_zero,List.set_cons_succ]
 refine wpAnyH_done (by kernel_rfl) ?_ _
 have HX:=Lib.hid hHeld.1
 clear hHeld hx5 hx6 hx7 HO6
 clear HLE HND HSM
 go_wp2_with fail
 go_loopw [5] (fun s5 wr=>∃z:Int,-1≤z∧z≤(ns.length:Int)+1∧s5= .int .i64 z∧Ext w wr) (fun s5 _=>((ns.length:Int)+1-intOf s5).toNat)
 case atStart=>exact ⟨-1,by omega,by omega,rfl,HX.out⟩
 case round=>
  clear HX
  obtain ⟨z,hz0,hz1,rfl,hx⟩:=hrel
  have HX:=Lib.hid hx
  have k0:=hx.keep HJ.out
  clear hx
  by_cases hzn:z≤(ns.length:Int)
  ·have hwz:IntKind.i64.wrap (z+1)=z+1:=IntWalk.i64_in _ (by omega)
   have hdz:decide (z≤(ns.length:Int))=true:=decide_eq_true hzn
   have HNE:=Lib.hid (HNO.out wr z HX.out)
   by_cases hin:0≤z∧z<(ns.length:Int)
   ·obtain ⟨k,rfl⟩:∃k:Nat,(k:Int)=z:=⟨z.toNat,by omega⟩
    have hk:k<ns.length:=by omega
    rw [HVI.out k hk] at HNE
    have HHE:=Lib.hid (fun W hx=>(decide_eq_true hin) ▸ HHA.out W (k:Int) hx)
    obtain ⟨gb,o,rfl,hgw,hc⟩:=HCL.out (by omega)
    have hkk:=hc k hk
    generalize ns[k]=x at *
    clear hc hk
    obtain ⟨y0,y1,y2,y3,y4⟩:=x
    simp only [ndV] at HNE
    have hkk':w.cell? ⟨gb,o+k*5,none⟩=some (.int .i64 y0)∧w.cell? ⟨gb,o+k*5+1,none⟩=some (.int .i64 y1)∧w.cell? ⟨gb,o+k*5+2,none⟩=some (.int .i64 y2)∧w.cell? ⟨gb,o+k*5+3,none⟩=some (.int .i64 y3)∧w.cell? ⟨gb,o+k*5+4,none⟩=some (str y4):=hkk
    obtain ⟨s,hs⟩:∃s:ByteArray,s=⟨(y4:List UInt8).toArray⟩:=⟨_,rfl⟩
    have hst:str y4= .string s:=by rw [hs];rfl
    rw [hst] at hkk' HNE
    have HKK:=Lib.hid hkk'
    have hk0:(0:Int)≤(k:Int):=by omega
    have hk1:(k:Int)<(ns.length:Int):=by omega
    clear hs hst hkk hkk' hin hz0 hz1
    go_wp2_with fail
    refine HNE.out.mono ?_
    rintro e w2 ⟨rfl,hx2⟩
    have HX2:=Lib.hid (HX.out.trans hx2)
    clear hx2 k0
    have HB:=Lib.hid (Blk.new w2 50 #[.int .i64 y0,.int .i64 y1,.int .i64 y2,.int .i64 y3,.string s])
    have HX3:=Lib.hid (HX2.out.alloc (.cells #[.int .i64 y0,.int .i64 y1,.int .i64 y2,.int .i64 y3,.string s] 50))
    obtain ⟨nb,hnb⟩:∃nb,nb=w2.heap.size:=⟨_,rfl⟩
    obtain ⟨w3,hw3⟩:∃w3,w3=w2.alloc (.cells #[.int .i64 y0,.int .i64 y1,.int .i64 y2,.int .i64 y3,.string s] 50):=⟨_,rfl⟩
    rw [←hw3,←hnb] at HB
    rw [←hw3] at HX3
    go_upto_region 7 with fail
    rw [←hw3,←hnb]
    clear hw3 hnb HX2 HNE
    obtain ⟨q0,q1,q2,q3,q4⟩:=HB.out.five
    have HQ:=Lib.hid (And.intro q0 (And.intro q1 (And.intro q2 (And.intro q3 q4))))
    clear q0 q1 q2 q3 q4
    have HKP:Hid (∀w1 w2,(fun w':World=>Ext w3 w'∧w'.cell? ⟨gr,0,none⟩=some (.slice (some ⟨gb,o,none⟩) ns.length c)∧w'.cell? ⟨nb,0,none⟩=some (.int .i64 y0)∧w'.cell? ⟨nb,1,none⟩=some (.int .i64 y1)∧w'.cell? ⟨nb,2,none⟩=some (.int .i64 y2)∧w'.cell? ⟨nb,3,none⟩=some (.int .i64 y3)∧w'.cell? ⟨nb,4,none⟩=some (.string s)∧w'.cell? ⟨gb,o+k*5,none⟩=some (.int .i64 y0)∧w'.cell? ⟨gb,o+k*5+1,none⟩=some (.int .i64 y1)∧w'.cell? ⟨gb,o+k*5+2,none⟩=some (.int .i64 y2)∧w'.cell? ⟨gb,o+k*5+3,none⟩=some (.int .i64 y3)∧w'.cell? ⟨gb,o+k*5+4,none⟩=some (.string s)) w1→Ext w1 w2→(fun w':World=>Ext w3 w'∧w'.cell? ⟨gr,0,none⟩=some (.slice (some ⟨gb,o,none⟩) ns.length c)∧w'.cell? ⟨nb,0,none⟩=some (.int .i64 y0)∧w'.cell? ⟨nb,1,none⟩=some (.int .i64 y1)∧w'.cell? ⟨nb,2,none⟩=some (.int .i64 y2)∧w'.cell? ⟨nb,3,none⟩=some (.int .i64 y3)∧w'.cell? ⟨nb,4,none⟩=some (.string s)∧w'.cell? ⟨gb,o+k*5,none⟩=some (.int .i64 y0)∧w'.cell? ⟨gb,o+k*5+1,none⟩=some (.int .i64 y1)∧w'.cell? ⟨gb,o+k*5+2,none⟩=some (.int .i64 y2)∧w'.cell? ⟨gb,o+k*5+3,none⟩=some (.int .i64 y3)∧w'.cell? ⟨gb,o+k*5+4,none⟩=some (.string s)) w2):=Lib.hid (fun w1 w2 h hx=>by
     obtain ⟨p0,p1,p2,p3,p4,p5,p6,p7,p8,p9,p10,p11⟩:=h
     exact ⟨p0.trans hx,hx.keep p1,hx.keep p2,hx.keep p3,hx.keep p4,hx.keep p5,hx.keep p6,hx.keep p7,hx.keep p8,hx.keep p9,hx.keep p10,hx.keep p11⟩)
    refine wp_region_held_drew (S:=fun w'=>Ext w3 w'∧w'.cell? ⟨gr,0,none⟩=some (.slice (some ⟨gb,o,none⟩) ns.length c)∧w'.cell? ⟨nb,0,none⟩=some (.int .i64 y0)∧w'.cell? ⟨nb,1,none⟩=some (.int .i64 y1)∧w'.cell? ⟨nb,2,none⟩=some (.int .i64 y2)∧w'.cell? ⟨nb,3,none⟩=some (.int .i64 y3)∧w'.cell? ⟨nb,4,none⟩=some (.string s)∧w'.cell? ⟨gb,o+k*5,none⟩=some (.int .i64 y0)∧w'.cell? ⟨gb,o+k*5+1,none⟩=some (.int .i64 y1)∧w'.cell? ⟨gb,o+k*5+2,none⟩=some (.int .i64 y2)∧w'.cell? ⟨gb,o+k*5+3,none⟩=some (.int .i64 y3)∧w'.cell? ⟨gb,o+k*5+4,none⟩=some (.string s)) (by kernel_rfl) (by exact ⟨(Ext.refl w3).drew,HX3.out.keep HJ.out,HQ.out.1,HQ.out.2.1,HQ.out.2.2.1,HQ.out.2.2.2.1,HQ.out.2.2.2.2,HX3.out.keep HKK.out.1,HX3.out.keep HKK.out.2.1,HX3.out.keep HKK.out.2.2.1,HX3.out.keep HKK.out.2.2.2.1,HX3.out.keep HKK.out.2.2.2.2⟩) (fun hHeld=> ?_)
    refine' wpAnyH_take (i:=0) (oi:=⟨some 43,_,_,_,_,_⟩) (v:=_) rfl (by kernel_rfl) (by kernel_rfl) (by kernel_rfl) (fun _ _ _ h=>h) (Or.inl ⟨by rfl,?_⟩) hHeld ?_
    rotate_left
    ·(intro w' hSw;(try dsimp only at hSw);go_simp;(try with_reducible rfl))
    try simp only [Act.put,List.setIfInBounds_toArray,List.set_cons_zero,List.set_cons_succ]
    refine' wpAnyH_take (i:=1) (oi:=⟨some 44,_,_,_,_,_⟩) (v:=_) rfl (by kernel_rfl) (by kernel_rfl) (by kernel_rfl) (fun _ _ _ h=>h) (Or.inl ⟨by rfl,?_⟩) hHeld ?_
    rotate_left
    ·(intro w' hSw;(try dsimp only at hSw);go_simp;(try with_reducible rfl))
    try simp only [Act.put,List.setIfInBounds_toArray,List.set_cons_zero,List.set_cons_succ]
    refine' wpAnyH_take (i:=2) (oi:=⟨some 45,_,_,_,_,_⟩) (v:=_) rfl (by kernel_rfl) (by kernel_rfl) (by kernel_rfl) (fun _ _ _ h=>h) (Or.inl ⟨by rfl,?_⟩) hHeld ?_
    rotate_left
    ·(intro w' hSw;(try dsimp only at hSw);go_simp;(try with_reducible rfl))
    try simp only [Act.put,List.setIfInBounds_toArray,List.set_cons_zero,List.set_cons_succ]
    refine wpAnyH_ready (rs:=[3]) (by kernel_rfl) (by simp) ?_
    refine AllReadyH.cons (i:=3) rfl (fun K hK=> ?_) AllReadyH.nil
    go_simp
    (go_at_call 39;refine (HHE.out _ (HX3.out.trans hHeld.1)).mono ?_;rintro e w6 ⟨rfl,hx6⟩)
    try go_wp2_with fail
    refine hK.out _ _ ?_ (fun hHeld=> ?_)
    ·exact HKP.out _ _ hHeld hx6
    clear hK K
    try simp only [Act.put,List.setIfInBounds_toArray,List.set_cons_zero,List.set_cons_succ]
    refine' wpAnyH_take (i:=4) (oi:=⟨some 47,_,_,_,_,_⟩) (v:=_) rfl (by kernel_rfl) (by kernel_rfl) (by kernel_rfl) (fun _ _ _ h=>h) (Or.inl ⟨by rfl,?_⟩) hHeld ?_
    rotate_left
    ·(intro w' hSw;(try dsimp only at hSw);go_simp;(try with_reducible rfl))
    try simp only [Act.put,List.setIfInBounds_toArray,List.set_cons_zero,List.set_cons_succ]
    refine' wpAnyH_take (i:=5) (oi:=⟨some 48,_,_,_,_,_⟩) (v:=_) rfl (by kernel_rfl) (by kernel_rfl) (by kernel_rfl) (fun _ _ _ h=>h) (Or.inl ⟨by rfl,?_⟩) hHeld ?_
    rotate_left
    ·(intro w' hSw;(try dsimp only at hSw);go_simp;(try with_reducible rfl))
    try simp only [Act.put,List.setIfInBounds_toArray,List.set_cons_zero,List.set_cons_succ]
    refine' wpAnyH_take (i:=6) (oi:=⟨some 49,_,_,_,_,_⟩) (v:=_) rfl (by kernel_rfl) (by kernel_rfl) (by kernel_rfl) (fun _ _ _ h=>h) (Or.inl ⟨by rfl,?_⟩) hHeld ?_
    rotate_left
    ·(intro w' hSw;(try dsimp only at hSw);go_simp;(try with_reducible rfl))
    try simp only [Act.put,List.setIfInBounds_toArray,List.set_cons_zero,List.set_cons_succ]
    refine' wpAnyH_take (i:=7) (oi:=⟨some 50,_,_,_,_,_⟩) (v:=_) rfl (by kernel_rfl) (by kernel_rfl) (by kernel_rfl) (fun _ _ _ h=>h) (Or.inl ⟨by rfl,?_⟩) hHeld ?_
    rotate_left
    ·(intro w' hSw;(try dsimp only at hSw);go_simp;(try with_reducible rfl))
    try simp only [Act.put,List.setIfInBounds_toArray,List.set_cons_zero,List.set_cons_succ]
    refine' wpAnyH_take (i:=8) (oi:=⟨some 51,_,_,_,_,_⟩) (v:=_) rfl (by kernel_rfl) (by kernel_rfl) (by kernel_rfl) (fun _ _ _ h=>h) (Or.inl ⟨by rfl,?_⟩) hHeld ?_
    rotate_left
    ·(intro w' hSw;(try dsimp only at hSw);go_simp;(try with_reducible rfl))
    try simp only [Act.put,List.setIfInBounds_toArray,List.set_cons_zero,List.set_cons_succ]
    refine' wpAnyH_take (i:=9) (oi:=⟨some 52,_,_,_,_,_⟩) (v:=_) rfl (by kernel_rfl) (by kernel_rfl) (by kernel_rfl) (fun _ _ _ h=>h) (Or.inl ⟨by rfl,?_⟩) hHeld ?_
    rotate_left
    ·(intro w' hSw;(try dsimp only at hSw);go_simp;(try with_reducible rfl))
    try simp only [Act.put,List.setIfInBounds_toArray,List.set_cons_zero,List.set_cons_succ]
    refine' wpAnyH_take (i:=10) (oi:=⟨some 53,_,_,_,_,_⟩) (v:=_) rfl (by kernel_rfl) (by kernel_rfl) (by kernel_rfl) (fun _ _ _ h=>h) (Or.inl ⟨by rfl,?_⟩) hHeld ?_
    rotate_left
    ·(intro w' hSw;(try dsimp only at hSw);go_simp;(try with_reducible rfl))
    try simp only [Act.put,List.setIfInBounds_toArray,List.set_cons_zero,List.set_cons_succ]
    refine' wpAnyH_take (i:=11) (oi:=⟨some 54,_,_,_,_,_⟩) (v:=_) rfl (by kernel_rfl) (by kernel_rfl) (by kernel_rfl) (fun _ _ _ h=>h) (Or.inl ⟨by rfl,?_⟩) hHeld ?_
    rotate_left
    ·(intro w' hSw;(try dsimp only at hSw);go_simp;(try with_reducible rfl))
    try simp only [Act.put,List.setIfInBounds_toArray,List.set_cons_zero,List.set_cons_succ]
    refine' wpAnyH_take (i:=12) (oi:=⟨some 55,_,_,_,_,_⟩) (v:=_) rfl (by kernel_rfl) (by kernel_rfl) (by kernel_rfl) (fun _ _ _ h=>h) (Or.inl ⟨by rfl,?_⟩) hHeld ?_
    rotate_left
    ·(intro w' hSw;(try dsimp only at hSw);go_simp;(try with_reducible rfl))
    try simp only [Act.put,List.setIfInBounds_toArray,List.set_cons_zero,List.set_cons_succ]
    refine' wpAnyH_take (i:=13) (oi:=⟨some 56,_,_,_,_,_⟩) (v:=_) rfl (by kernel_rfl) (by kernel_rfl) (by kernel_rfl) (fun _ _ _ h=>h) (Or.inl ⟨by rfl,?_⟩) hHeld ?_
    rotate_left
    ·(intro w' hSw;(try dsimp only at hSw);go_simp;(try with_reducible rfl))
    try simp only [Act.put,List.setIfInBounds_toArray,List.set_cons_zero,List.set_cons_succ]
    refine' wpAnyH_take (i:=14) (oi:=⟨some 57,_,_,_,_,_⟩) (v:=_) rfl (by kernel_rfl) (by kernel_rfl) (by kernel_rfl) (fun _ _ _ h=>h) (Or.inl ⟨by rfl,?_⟩) hHeld ?_
    rotate_left
    ·(intro w' hSw;(try dsimp only at hSw);go_simp;(try with_reducible rfl))
    try simp only [Act.put,List.setIfInBounds_toArray,List.set_cons_zero,List.set_cons_succ]
    refine' wpAnyH_take (i:=15) (oi:=⟨some 58,_,_,_,_,_⟩) (v:=_) rfl (by kernel_rfl) (by kernel_rfl) (by kernel_rfl) (fun _ _ _ h=>h) (Or.inl ⟨by rfl,?_⟩) hHeld ?_
    rotate_left
    ·(intro w' hSw;(try dsimp only at hSw);go_simp;(try with_reducible rfl))
    try simp only [Act.put,List.setIfInBounds_toArray,List.set_cons_zero,List.set_cons_succ]
    refine' wpAnyH_take (i:=16) (oi:=⟨some 59,_,_,_,_,_⟩) (v:=_) rfl (by kernel_rfl) (by kernel_rfl) (by kernel_rfl) (fun _ _ _ h=>h) (Or.inl ⟨by rfl,?_⟩) hHeld ?_
    rotate_left
    ·(intro w' hSw;(try dsimp only at hSw);go_simp;(try with_reducible rfl))
    try simp only [Act.put,List.setIfInBounds_toArray,List.set_cons_zero,List.set_cons_succ]
    refine' wpAnyH_take (i:=17) (oi:=⟨some 60,_,_,_,_,_⟩) (v:=_) rfl (by kernel_rfl) (by kernel_rfl) (by kernel_rfl) (fun _ _ _ h=>h) (Or.inl ⟨by rfl,?_⟩) hHeld ?_
    rotate_left
    ·(intro w' hSw;(try dsimp only at hSw);go_simp;(try with_reducible rfl))
    try simp only [Act.put,List.setIfInBounds_toArray,List.set_cons_zero,List.set_cons_succ]
    refine' wpAnyH_take (i:=18) (oi:=⟨some 61,_,_,_,_,_⟩) (v:=_) rfl (by kernel_rfl) (by kernel_rfl) (by kernel_rfl) (fun _ _ _ h=>h) (Or.inl ⟨by rfl,?_⟩) hHeld ?_
    rotate_left
    ·(intro w' hSw;(try dsimp only at hSw);go_simp;(try with_reducible rfl))
    try simp only [Act.put,List.setIfInBounds_toArray,List.set_cons_zero,List.set_cons_succ]
    refine' wpAnyH_take (i:=19) (oi:=⟨some 62,_,_,_,_,_⟩) (v:=_) rfl (by kernel_rfl) (by kernel_rfl) (by kernel_rfl) (fun _ _ _ h=>h) (Or.inl ⟨by rfl,?_⟩) hHeld ?_
    rotate_left
    ·(intro w' hSw;(try dsimp only at hSw);go_simp;(try with_reducible rfl))
    try simp only [Act.put,List.setIfInBounds_toArray,List.set_cons_zero,List.set_cons_succ]
    refine' wpAnyH_take (i:=20) (oi:=⟨some 63,_,_,_,_,_⟩) (v:=_) rfl (by kernel_rfl) (by kernel_rfl) (by kernel_rfl) (fun _ _ _ h=>h) (Or.inl ⟨by rfl,?_⟩) hHeld ?_
    rotate_left
    ·(intro w' hSw;(try dsimp only at hSw);go_simp;(try with_reducible rfl))
    try simp only [Act.put,List.setIfInBounds_toArray,List.set_cons_zero,List.set_cons_succ]
    refine' wpAnyH_take (i:=21) (oi:=⟨some 64,_,_,_,_,_⟩) (v:=_) rfl (by kernel_rfl) (by kernel_rfl) (by kernel_rfl) (fun _ _ _ h=>h) (Or.inl ⟨by rfl,?_⟩) hHeld ?_
    rotate_left
    ·(intro w' hSw;(try dsimp only at hSw);go_simp;(try with_reducible rfl))
    try simp only [Act.put,List.setIfInBounds_toArray,List.set_cons_zero,List.set_cons_succ]
    refine' wpAnyH_take (i:=22) (oi:=⟨some 65,_,_,_,_,_⟩) (v:=_) rfl (by kernel_rfl) (by kernel_rfl) (by kernel_rfl) (fun _ _ _ h=>h) (Or.inl ⟨by rfl,?_⟩) hHeld ?_
    rotate_left
    ·(intro w' hSw;(try dsimp only at hSw);go_simp;(try with_reducible rfl))
    try simp only [Act.put,List.setIfInBounds_toArray,List.set_cons_zero,List.set_cons_succ]
    refine' wpAnyH_take (i:=23) (oi:=⟨some 66,_,_,_,_,_⟩) (v:=undef) rfl (by kernel_rfl) (by kernel_rfl) (by kernel_rfl) (fun _ _ _ h=>h) (Or.inr ⟨by rfl,rfl⟩) hHeld ?_
    try simp only [Act.put,List.setIfInBounds_toArray,List.set_cons_zero,List.set_cons_succ]
    refine' wpAnyH_take (i:=24) (oi:=⟨some 67,_,_,_,_,_⟩) (v:=undef) rfl (by kernel_rfl) (by kernel_rfl) (by kernel_rfl) (fun _ _ _ h=>h) (Or.inr ⟨by rfl,rfl⟩) hHeld ?_
    try simp only [Act.put,List.setIfInBounds_toArray,List.set_cons_zero,List.set_cons_succ]
    refine' wpAnyH_take (i:=25) (oi:=⟨some 68,_,_,_,_,_⟩) (v:=undef) rfl (by kernel_rfl) (by kernel_rfl) (by kernel_rfl) (fun _ _ _ h=>h) (Or.inr ⟨by rfl,rfl⟩) hHeld ?_
    try simp only [Act.put,List.setIfInBounds_toArray,List.set_cons_zero,List.set_cons_succ]
    refine' wpAnyH_take (i:=26) (oi:=⟨some 69,_,_,_,_,_⟩) (v:=_) rfl (by kernel_rfl) (by kernel_rfl) (by kernel_rfl) (fun _ _ _ h=>h) (Or.inl ⟨by rfl,?_⟩) hHeld ?_
    rotate_left
    ·(intro w' hSw;(try dsimp only at hSw);go_simp;(try with_reducible rfl))
    try simp only [Act.put,List.setIfInBounds_toArray,List.set_cons_zero,List.set_cons_succ]
    refine' wpAnyH_take (i:=27) (oi:=⟨some 70,_,_,_,_,_⟩) (v:=_) rfl (by kernel_rfl) (by kernel_rfl) (by kernel_rfl) (fun _ _ _ h=>h) (Or.inl ⟨by rfl,?_⟩) hHeld ?_
    rotate_left
    ·(intro w' hSw;(try dsimp only at hSw);go_simp;(try with_reducible rfl))
    try simp only [Act.put,List.setIfInBounds_toArray,List.set_cons_zero,List.set_cons_succ]
    refine' wpAnyH_take (i:=28) (oi:=⟨some 71,_,_,_,_,_⟩) (v:=_) rfl (by kernel_rfl) (by kernel_rfl) (by kernel_rfl) (fun _ _ _ h=>h) (Or.inl ⟨by rfl,?_⟩) hHeld ?_
    rotate_left
    ·(intro w' hSw;(try dsimp only at hSw);go_simp;(try with_reducible rfl))
    try simp only [Act.put,List.setIfInBounds_toArray,List.set_cons_zero,List.set_cons_succ]
    refine' wpAnyH_take (i:=29) (oi:=⟨some 72,_,_,_,_,_⟩) (v:=_) rfl (by kernel_rfl) (by kernel_rfl) (by kernel_rfl) (fun _ _ _ h=>h) (Or.inl ⟨by rfl,?_⟩) hHeld ?_
    rotate_left
    ·(intro w' hSw;(try dsimp only at hSw);go_simp;(try with_reducible rfl))
    try simp only [Act.put,List.setIfInBounds_toArray,List.set_cons_zero,List.set_cons_succ]
    refine' wpAnyH_take (i:=30) (oi:=⟨some 73,_,_,_,_,_⟩) (v:=_) rfl (by kernel_rfl) (by kernel_rfl) (by kernel_rfl) (fun _ _ _ h=>h) (Or.inl ⟨by rfl,?_⟩) hHeld ?_
    rotate_left
    ·(intro w' hSw;(try dsimp only at hSw);go_simp;(try with_reducible rfl))
    try simp only [Act.put,List.setIfInBounds_toArray,List.set_cons_zero,List.set_cons_succ]
    refine' wpAnyH_take (i:=32) (oi:=⟨some 75,_,_,_,_,_⟩) (v:=_) rfl (by kernel_rfl) (by kernel_rfl) (by kernel_rfl) (fun _ _ _ h=>h) (Or.inl ⟨by rfl,?_⟩) hHeld ?_
    rotate_left
    ·(intro w' hSw;(try dsimp only at hSw);go_simp;(try with_reducible rfl))
    try simp only [Act.put,List.setIfInBounds_toArray,List.set_cons_zero,List.set_cons_succ]
    refine' wpAnyH_take (i:=33) (oi:=⟨some 76,_,_,_,_,_⟩) (v:=_) rfl (by kernel_rfl) (by kernel_rfl) (by kernel_rfl) (fun _ _ _ h=>h) (Or.inl ⟨by rfl,?_⟩) hHeld ?_
    rotate_left
    ·(intro w' hSw;(try dsimp only at hSw);go_simp;(try with_reducible rfl))
    try simp only [Act.put,List.setIfInBounds_toArray,List.set_cons_zero,List.set_cons_succ]
    refine wpAnyH_ready (rs:=[31]) (by kernel_rfl) (by simp) ?_
    refine AllReadyH.cons (i:=31) rfl (fun K hK=> ?_) AllReadyH.nil
    go_simp
    (go_at_call 40;refine (HDG.out _ (k:Int) (HX3.out.trans hHeld.1)).mono ?_;rintro e w7 ⟨rfl,hx7⟩)
    try go_wp2_with fail
    refine hK.out _ _ ?_ (fun hHeld=> ?_)
    ·exact HKP.out _ _ hHeld hx7
    clear hK K
    try simp only [Act.put,List.setIfInBounds_toArray,List.set_cons_zero,List.set_cons_succ]
    refine wpAnyH_ready (rs:=[34]) (by kernel_rfl) (by simp) ?_
    refine AllReadyH.cons (i:=34) rfl (fun K hK=> ?_) AllReadyH.nil
    go_simp
    (go_at_call 41;refine (HDR.out _ (k:Int) (HX3.out.trans hHeld.1)).mono ?_;rintro e w8 ⟨rfl,hx8⟩)
    try go_wp2_with fail
    refine hK.out _ _ ?_ (fun hHeld=> ?_)
    ·exact HKP.out _ _ hHeld hx8
    clear hK K
    try simp only [Act.put,List.setIfInBounds_toArray,List.set_cons_zero,List.set_cons_succ]
    refine' wpAnyH_take (i:=35) (oi:=⟨some 78,_,_,_,_,_⟩) (v:=_) rfl (by kernel_rfl) (by kernel_rfl) (by kernel_rfl) (fun _ _ _ h=>h) (Or.inl ⟨by rfl,?_⟩) hHeld ?_
    rotate_left
    ·(intro w' hSw;(try dsimp only at hSw);go_simp;(try with_reducible rfl))
    try simp only [Act.put,List.setIfInBounds_toArray,List.set_cons_zero,List.set_cons_succ]
    refine' wpAnyH_take (i:=36) (oi:=⟨some 79,_,_,_,_,_⟩) (v:=_) rfl (by kernel_rfl) (by kernel_rfl) (by kernel_rfl) (fun _ _ _ h=>h) (Or.inl ⟨by rfl,?_⟩) hHeld ?_
    rotate_left
    ·(intro w' hSw;(try dsimp only at hSw);go_simp;(try with_reducible rfl))
    try simp only [Act.put,List.setIfInBounds_toArray,List.set_cons_zero,List.set_cons_succ]
    refine' wpAnyH_take (i:=37) (oi:=⟨some 80,_,_,_,_,_⟩) (v:=_) rfl (by kernel_rfl) (by kernel_rfl) (by kernel_rfl) (fun _ _ _ h=>h) (Or.inl ⟨by rfl,?_⟩) hHeld ?_
    rotate_left
    ·(intro w' hSw;(try dsimp only at hSw);go_simp;(try with_reducible rfl))
    try simp only [Act.put,List.setIfInBounds_toArray,List.set_cons_zero,List.set_cons_succ]
    refine' wpAnyH_take (i:=38) (oi:=⟨some 81,_,_,_,_,_⟩) (v:=_) rfl (by kernel_rfl) (by kernel_rfl) (by kernel_rfl) (fun _ _ _ h=>h) (Or.inl ⟨by rfl,?_⟩) hHeld ?_
    rotate_left
    ·(intro w' hSw;(try dsimp only at hSw);go_simp;(try with_reducible rfl))
    try simp only [Act.put,List.setIfInBounds_toArray,List.set_cons_zero,List.set_cons_succ]
    refine' wpAnyH_take (i:=39) (oi:=⟨some 82,_,_,_,_,_⟩) (v:=_) rfl (by kernel_rfl) (by kernel_rfl) (by kernel_rfl) (fun _ _ _ h=>h) (Or.inl ⟨by rfl,?_⟩) hHeld ?_
    rotate_left
    ·(intro w' hSw;(try dsimp only at hSw);go_simp;(try with_reducible rfl))
    try simp only [Act.put,List.setIfInBounds_toArray,List.set_cons_zero,List.set_cons_succ]
    refine' wpAnyH_take (i:=41) (oi:=⟨some 84,_,_,_,_,_⟩) (v:=_) rfl (by kernel_rfl) (by kernel_rfl) (by kernel_rfl) (fun _ _ _ h=>h) (Or.inl ⟨by rfl,?_⟩) hHeld ?_
    rotate_left
    ·(intro w' hSw;(try dsimp only at hSw);go_simp;(try with_reducible rfl))
    try simp only [Act.put,List.setIfInBounds_toArray,List.set_cons_zero,List.set_cons_succ]
    refine' wpAnyH_take (i:=42) (oi:=⟨some 85,_,_,_,_,_⟩) (v:=_) rfl (by kernel_rfl) (by kernel_rfl) (by kernel_rfl) (fun _ _ _ h=>h) (Or.inl ⟨by rfl,?_⟩) hHeld ?_
    rotate_left
    ·(intro w' hSw;(try dsimp only at hSw);go_simp;(try with_reducible rfl))
    try simp only [Act.put,List.setIfInBounds_toArray,List.set_cons_zero,List.set_cons_succ]
    refine wpAnyH_ready (rs:=[40]) (by kernel_rfl) (by simp) ?_
    refine AllReadyH.cons (i:=40) rfl (fun K hK=> ?_) AllReadyH.nil
    go_simp
    (go_at_call 43;refine (HNG.out _ (k:Int) (HX3.out.trans hHeld.1)).mono ?_;rintro e w9 ⟨v9,l9,rfl,ha9,hv9,hl9,hx9⟩;have HA9:=Lib.hid ha9;have HV9:=Lib.hid hv9;have HL9:=Lib.hid hl9;obtain ⟨m9,A9,c9,rfl⟩:=ha9.shape;clear ha9 hv9 hl9)
    try go_wp2_with fail
    refine hK.out _ _ ?_ (fun hHeld=> ?_)
    ·exact HKP.out _ _ hHeld hx9
    clear hK K
    try simp only [Act.put,List.setIfInBounds_toArray,List.set_cons_zero,List.set_cons_succ]
    refine wpAnyH_ready (rs:=[43]) (by kernel_rfl) (by simp) ?_
    refine AllReadyH.cons (i:=43) rfl (fun K hK=> ?_) AllReadyH.nil
    go_simp
    (go_at_call 44;refine (HNR.out _ (k:Int) (HX3.out.trans hHeld.1)).mono ?_;rintro e w10 ⟨v10,l10,rfl,ha10,hv10,hl10,hx10⟩;obtain rfl:l10=l9:=hv10.uniq HV9.out;have HA10:=Lib.hid ha10;have HA9:=Lib.hid (HA9.out.ext hx10);obtain ⟨m10,A10,c10,rfl⟩:=ha10.shape;clear ha10 hv10 hl10)
    try go_wp2_with fail
    refine hK.out _ _ ?_ (fun hHeld=> ?_)
    ·exact HKP.out _ _ hHeld hx10
    clear hK K
    try simp only [Act.put,List.setIfInBounds_toArray,List.set_cons_zero,List.set_cons_succ]
    refine wpAnyH_ready (rs:=[44]) (by kernel_rfl) (by simp) ?_
    refine AllReadyH.cons (i:=44) rfl (fun K hK=> ?_) AllReadyH.nil
    go_simp
    (go_at_call 42;refine (HST.out _ _ _ _ HA9.out HA10.out HL9.out).mono ?_;rintro e w11 ⟨rfl,hx11⟩)
    try go_wp2_with fail
    refine hK.out _ _ ?_ (fun hHeld=> ?_)
    ·exact HKP.out _ _ hHeld hx11
    clear hK K
    try simp only [Act.put,List.setIfInBounds_toArray,List.set_cons_zero,List.set_cons_succ]
    refine' wpAnyH_take (i:=45) (oi:=⟨some 88,_,_,_,_,_⟩) (v:=_) rfl (by kernel_rfl) (by kernel_rfl) (by kernel_rfl) (fun _ _ _ h=>h) (Or.inl ⟨by rfl,?_⟩) hHeld ?_
    rotate_left
    ·(intro w' hSw;(try dsimp only at hSw);go_simp;(try with_reducible rfl))
    try simp only [Act.put,List.setIfInBounds_toArray,List.set_cons_zero,List.set_cons_succ]
    refine wpAnyH_ready (rs:=[46]) (by kernel_rfl) (by simp) ?_
    refine AllReadyH.cons (i:=46) rfl (fun K hK=> ?_) AllReadyH.nil
    go_simp
    try go_wp2_with fail
    refine hK.out _ _ ?_ (fun hHeld=> ?_)
    ·exact hHeld
    clear hK K
    try simp only [Act.put,List.setIfInBounds_toArray,List.set_cons_zero,List.set_cons_succ]
    refine wpAnyH_done (by kernel_rfl) ?_ _
    have HXE:=Lib.hid (HX3.out.trans hHeld.1)
    clear hHeld HQ HB HX3 HKP hx6 hx7 hx8 hx9 hx10 hx11 HA9 HA10 HV9 HL9
    go_wp2_with fail
    go_roundw
    case rel=>exact ⟨(k:Int)+1,by omega,by omega,by go_num,HXE.out⟩
    case measure=>simp [intOf]<;>omega
   ·rw [HVO.out z (by omega)] at HNE
    have HHE:=Lib.hid (fun W hx=>(decide_eq_false hin) ▸ HHA.out W z hx)
    clear hin
    go_wp2_with fail
    refine HNE.out.mono ?_
    rintro e w2 ⟨rfl,hx2⟩
    have HX2:=Lib.hid (HX.out.trans hx2)
    clear hx2 k0
    have HB:=Lib.hid (Blk.new w2 50 #[.int .i64 0,.int .i64 0,.int .i64 0,.int .i64 0,.string ⟨#[]⟩])
    have HX3:=Lib.hid (HX2.out.alloc (.cells #[.int .i64 0,.int .i64 0,.int .i64 0,.int .i64 0,.string ⟨#[]⟩] 50))
    obtain ⟨nb,hnb⟩:∃nb,nb=w2.heap.size:=⟨_,rfl⟩
    obtain ⟨w3,hw3⟩:∃w3,w3=w2.alloc (.cells #[.int .i64 0,.int .i64 0,.int .i64 0,.int .i64 0,.string ⟨#[]⟩] 50):=⟨_,rfl⟩
    rw [←hw3,←hnb] at HB
    rw [←hw3] at HX3
    go_upto_region 7 with fail
    rw [←hw3,←hnb]
    clear hw3 hnb HX2 HNE
    obtain ⟨q0,q1,q2,q3,q4⟩:=HB.out.five
    have HQ:=Lib.hid (And.intro q0 (And.intro q1 (And.intro q2 (And.intro q3 q4))))
    clear q0 q1 q2 q3 q4
    have HKP:Hid (∀w1 w2,(fun w':World=>Ext w3 w'∧w'.cell? ⟨gr,0,none⟩=some (.slice A ns.length c)∧w'.cell? ⟨nb,0,none⟩=some (.int .i64 0)∧w'.cell? ⟨nb,1,none⟩=some (.int .i64 0)∧w'.cell? ⟨nb,2,none⟩=some (.int .i64 0)∧w'.cell? ⟨nb,3,none⟩=some (.int .i64 0)∧w'.cell? ⟨nb,4,none⟩=some (.string ⟨#[]⟩)) w1→Ext w1 w2→(fun w':World=>Ext w3 w'∧w'.cell? ⟨gr,0,none⟩=some (.slice A ns.length c)∧w'.cell? ⟨nb,0,none⟩=some (.int .i64 0)∧w'.cell? ⟨nb,1,none⟩=some (.int .i64 0)∧w'.cell? ⟨nb,2,none⟩=some (.int .i64 0)∧w'.cell? ⟨nb,3,none⟩=some (.int .i64 0)∧w'.cell? ⟨nb,4,none⟩=some (.string ⟨#[]⟩)) w2):=Lib.hid (fun w1 w2 h hx=>by
     obtain ⟨p0,p1,p2,p3,p4,p5,p6⟩:=h
     exact ⟨p0.trans hx,hx.keep p1,hx.keep p2,hx.keep p3,hx.keep p4,hx.keep p5,hx.keep p6⟩)
    refine wp_region_held_drew (S:=fun w'=>Ext w3 w'∧w'.cell? ⟨gr,0,none⟩=some (.slice A ns.length c)∧w'.cell? ⟨nb,0,none⟩=some (.int .i64 0)∧w'.cell? ⟨nb,1,none⟩=some (.int .i64 0)∧w'.cell? ⟨nb,2,none⟩=some (.int .i64 0)∧w'.cell? ⟨nb,3,none⟩=some (.int .i64 0)∧w'.cell? ⟨nb,4,none⟩=some (.string ⟨#[]⟩)) (by kernel_rfl) (by exact ⟨(Ext.refl w3).drew,HX3.out.keep HJ.out,HQ.out.1,HQ.out.2.1,HQ.out.2.2.1,HQ.out.2.2.2.1,HQ.out.2.2.2.2⟩) (fun hHeld=> ?_)
    refine' wpAnyH_take (i:=0) (oi:=⟨some 43,_,_,_,_,_⟩) (v:=_) rfl (by kernel_rfl) (by kernel_rfl) (by kernel_rfl) (fun _ _ _ h=>h) (Or.inl ⟨by rfl,?_⟩) hHeld ?_
    rotate_left
    ·(intro w' hSw;(try dsimp only at hSw);go_simp;(try with_reducible rfl))
    try simp only [Act.put,List.setIfInBounds_toArray,List.set_cons_zero,List.set_cons_succ]
    refine' wpAnyH_take (i:=1) (oi:=⟨some 44,_,_,_,_,_⟩) (v:=_) rfl (by kernel_rfl) (by kernel_rfl) (by kernel_rfl) (fun _ _ _ h=>h) (Or.inl ⟨by rfl,?_⟩) hHeld ?_
    rotate_left
    ·(intro w' hSw;(try dsimp only at hSw);go_simp;(try with_reducible rfl))
    try simp only [Act.put,List.setIfInBounds_toArray,List.set_cons_zero,List.set_cons_succ]
    refine' wpAnyH_take (i:=2) (oi:=⟨some 45,_,_,_,_,_⟩) (v:=_) rfl (by kernel_rfl) (by kernel_rfl) (by kernel_rfl) (fun _ _ _ h=>h) (Or.inl ⟨by rfl,?_⟩) hHeld ?_
    rotate_left
    ·(intro w' hSw;(try dsimp only at hSw);go_simp;(try with_reducible rfl))
    try simp only [Act.put,List.setIfInBounds_toArray,List.set_cons_zero,List.set_cons_succ]
    refine wpAnyH_ready (rs:=[3]) (by kernel_rfl) (by simp) ?_
    refine AllReadyH.cons (i:=3) rfl (fun K hK=> ?_) AllReadyH.nil
    go_simp
    (go_at_call 39;refine (HHE.out _ (HX3.out.trans hHeld.1)).mono ?_;rintro e w6 ⟨rfl,hx6⟩)
    try go_wp2_with fail
    refine hK.out _ _ ?_ (fun hHeld=> ?_)
    ·exact HKP.out _ _ hHeld hx6
    clear hK K
    try simp only [Act.put,List.setIfInBounds_toArray,List.set_cons_zero,List.set_cons_succ]
    refine' wpAnyH_take (i:=4) (oi:=⟨some 47,_,_,_,_,_⟩) (v:=_) rfl (by kernel_rfl) (by kernel_rfl) (by kernel_rfl) (fun _ _ _ h=>h) (Or.inl ⟨by rfl,?_⟩) hHeld ?_
    rotate_left
    ·(intro w' hSw;(try dsimp only at hSw);go_simp;(try with_reducible rfl))
    try simp only [Act.put,List.setIfInBounds_toArray,List.set_cons_zero,List.set_cons_succ]
    refine' wpAnyH_take (i:=5) (oi:=⟨some 48,_,_,_,_,_⟩) (v:=_) rfl (by kernel_rfl) (by kernel_rfl) (by kernel_rfl) (fun _ _ _ h=>h) (Or.inl ⟨by rfl,?_⟩) hHeld ?_
    rotate_left
    ·(intro w' hSw;(try dsimp only at hSw);go_simp;(try with_reducible rfl))
    try simp only [Act.put,List.setIfInBounds_toArray,List.set_cons_zero,List.set_cons_succ]
    refine' wpAnyH_take (i:=6) (oi:=⟨some 49,_,_,_,_,_⟩) (v:=_) rfl (by kernel_rfl) (by kernel_rfl) (by kernel_rfl) (fun _ _ _ h=>h) (Or.inl ⟨by rfl,?_⟩) hHeld ?_
    rotate_left
    ·(intro w' hSw;(try dsimp only at hSw);go_simp;(try with_reducible rfl))
    try simp only [Act.put,List.setIfInBounds_toArray,List.set_cons_zero,List.set_cons_succ]
    refine' wpAnyH_take (i:=7) (oi:=⟨some 50,_,_,_,_,_⟩) (v:=_) rfl (by kernel_rfl) (by kernel_rfl) (by kernel_rfl) (fun _ _ _ h=>h) (Or.inl ⟨by rfl,?_⟩) hHeld ?_
    rotate_left
    ·(intro w' hSw;(try dsimp only at hSw);go_simp;(try with_reducible rfl))
    try simp only [Act.put,List.setIfInBounds_toArray,List.set_cons_zero,List.set_cons_succ]
    refine' wpAnyH_take (i:=8) (oi:=⟨some 51,_,_,_,_,_⟩) (v:=undef) rfl (by kernel_rfl) (by kernel_rfl) (by kernel_rfl) (fun _ _ _ h=>h) (Or.inr ⟨by rfl,rfl⟩) hHeld ?_
    try simp only [Act.put,List.setIfInBounds_toArray,List.set_cons_zero,List.set_cons_succ]
    refine' wpAnyH_take (i:=9) (oi:=⟨some 52,_,_,_,_,_⟩) (v:=undef) rfl (by kernel_rfl) (by kernel_rfl) (by kernel_rfl) (fun _ _ _ h=>h) (Or.inr ⟨by rfl,rfl⟩) hHeld ?_
    try simp only [Act.put,List.setIfInBounds_toArray,List.set_cons_zero,List.set_cons_succ]
    refine' wpAnyH_take (i:=10) (oi:=⟨some 53,_,_,_,_,_⟩) (v:=undef) rfl (by kernel_rfl) (by kernel_rfl) (by kernel_rfl) (fun _ _ _ h=>h) (Or.inr ⟨by rfl,rfl⟩) hHeld ?_
    try simp only [Act.put,List.setIfInBounds_toArray,List.set_cons_zero,List.set_cons_succ]
    refine' wpAnyH_take (i:=11) (oi:=⟨some 54,_,_,_,_,_⟩) (v:=undef) rfl (by kernel_rfl) (by kernel_rfl) (by kernel_rfl) (fun _ _ _ h=>h) (Or.inr ⟨by rfl,rfl⟩) hHeld ?_
    try simp only [Act.put,List.setIfInBounds_toArray,List.set_cons_zero,List.set_cons_succ]
    refine' wpAnyH_take (i:=12) (oi:=⟨some 55,_,_,_,_,_⟩) (v:=undef) rfl (by kernel_rfl) (by kernel_rfl) (by kernel_rfl) (fun _ _ _ h=>h) (Or.inr ⟨by rfl,rfl⟩) hHeld ?_
    try simp only [Act.put,List.setIfInBounds_toArray,List.set_cons_zero,List.set_cons_succ]
    refine' wpAnyH_take (i:=13) (oi:=⟨some 56,_,_,_,_,_⟩) (v:=undef) rfl (by kernel_rfl) (by kernel_rfl) (by kernel_rfl) (fun _ _ _ h=>h) (Or.inr ⟨by rfl,rfl⟩) hHeld ?_
    try simp only [Act.put,List.setIfInBounds_toArray,List.set_cons_zero,List.set_cons_succ]
    refine' wpAnyH_take (i:=14) (oi:=⟨some 57,_,_,_,_,_⟩) (v:=undef) rfl (by kernel_rfl) (by kernel_rfl) (by kernel_rfl) (fun _ _ _ h=>h) (Or.inr ⟨by rfl,rfl⟩) hHeld ?_
    try simp only [Act.put,List.setIfInBounds_toArray,List.set_cons_zero,List.set_cons_succ]
    refine' wpAnyH_take (i:=15) (oi:=⟨some 58,_,_,_,_,_⟩) (v:=undef) rfl (by kernel_rfl) (by kernel_rfl) (by kernel_rfl) (fun _ _ _ h=>h) (Or.inr ⟨by rfl,rfl⟩) hHeld ?_
    try simp only [Act.put,List.setIfInBounds_toArray,List.set_cons_zero,List.set_cons_succ]
    refine' wpAnyH_take (i:=16) (oi:=⟨some 59,_,_,_,_,_⟩) (v:=undef) rfl (by kernel_rfl) (by kernel_rfl) (by kernel_rfl) (fun _ _ _ h=>h) (Or.inr ⟨by rfl,rfl⟩) hHeld ?_
    try simp only [Act.put,List.setIfInBounds_toArray,List.set_cons_zero,List.set_cons_succ]
    refine' wpAnyH_take (i:=17) (oi:=⟨some 60,_,_,_,_,_⟩) (v:=_) rfl (by kernel_rfl) (by kernel_rfl) (by kernel_rfl) (fun _ _ _ h=>h) (Or.inl ⟨by rfl,?_⟩) hHeld ?_
    rotate_left
    ·(intro w' hSw;(try dsimp only at hSw);go_simp;(try with_reducible rfl))
    try simp only [Act.put,List.setIfInBounds_toArray,List.set_cons_zero,List.set_cons_succ]
    refine' wpAnyH_take (i:=18) (oi:=⟨some 61,_,_,_,_,_⟩) (v:=_) rfl (by kernel_rfl) (by kernel_rfl) (by kernel_rfl) (fun _ _ _ h=>h) (Or.inl ⟨by rfl,?_⟩) hHeld ?_
    rotate_left
    ·(intro w' hSw;(try dsimp only at hSw);go_simp;(try with_reducible rfl))
    try simp only [Act.put,List.setIfInBounds_toArray,List.set_cons_zero,List.set_cons_succ]
    refine' wpAnyH_take (i:=19) (oi:=⟨some 62,_,_,_,_,_⟩) (v:=_) rfl (by kernel_rfl) (by kernel_rfl) (by kernel_rfl) (fun _ _ _ h=>h) (Or.inl ⟨by rfl,?_⟩) hHeld ?_
    rotate_left
    ·(intro w' hSw;(try dsimp only at hSw);go_simp;(try with_reducible rfl))
    try simp only [Act.put,List.setIfInBounds_toArray,List.set_cons_zero,List.set_cons_succ]
    refine' wpAnyH_take (i:=20) (oi:=⟨some 63,_,_,_,_,_⟩) (v:=_) rfl (by kernel_rfl) (by kernel_rfl) (by kernel_rfl) (fun _ _ _ h=>h) (Or.inl ⟨by rfl,?_⟩) hHeld ?_
    rotate_left
    ·(intro w' hSw;(try dsimp only at hSw);go_simp;(try with_reducible rfl))
    try simp only [Act.put,List.setIfInBounds_toArray,List.set_cons_zero,List.set_cons_succ]
    refine' wpAnyH_take (i:=21) (oi:=⟨some 64,_,_,_,_,_⟩) (v:=_) rfl (by kernel_rfl) (by kernel_rfl) (by kernel_rfl) (fun _ _ _ h=>h) (Or.inl ⟨by rfl,?_⟩) hHeld ?_
    rotate_left
    ·(intro w' hSw;(try dsimp only at hSw);go_simp;(try with_reducible rfl))
    try simp only [Act.put,List.setIfInBounds_toArray,List.set_cons_zero,List.set_cons_succ]
    refine' wpAnyH_take (i:=22) (oi:=⟨some 65,_,_,_,_,_⟩) (v:=_) rfl (by kernel_rfl) (by kernel_rfl) (by kernel_rfl) (fun _ _ _ h=>h) (Or.inl ⟨by rfl,?_⟩) hHeld ?_
    rotate_left
    ·(intro w' hSw;(try dsimp only at hSw);go_simp;(try with_reducible rfl))
    try simp only [Act.put,List.setIfInBounds_toArray,List.set_cons_zero,List.set_cons_succ]
    refine' wpAnyH_take (i:=23) (oi:=⟨some 66,_,_,_,_,_⟩) (v:=_) rfl (by kernel_rfl) (by kernel_rfl) (by kernel_rfl) (fun _ _ _ h=>h) (Or.inl ⟨by rfl,?_⟩) hHeld ?_
    rotate_left
    ·(intro w' hSw;(try dsimp only at hSw);go_simp;(try with_reducible rfl))
    try simp only [Act.put,List.setIfInBounds_toArray,List.set_cons_zero,List.set_cons_succ]
    refine' wpAnyH_take (i:=24) (oi:=⟨some 67,_,_,_,_,_⟩) (v:=_) rfl (by kernel_rfl) (by kernel_rfl) (by kernel_rfl) (fun _ _ _ h=>h) (Or.inl ⟨by rfl,?_⟩) hHeld ?_
    rotate_left
    ·(intro w' hSw;(try dsimp only at hSw);go_simp;(try with_reducible rfl))
    try simp only [Act.put,List.setIfInBounds_toArray,List.set_cons_zero,List.set_cons_succ]
    refine' wpAnyH_take (i:=25) (oi:=⟨some 68,_,_,_,_,_⟩) (v:=_) rfl (by kernel_rfl) (by kernel_rfl) (by kernel_rfl) (fun _ _ _ h=>h) (Or.inl ⟨by rfl,?_⟩) hHeld ?_
    rotate_left
    ·(intro w' hSw;(try dsimp only at hSw);go_simp;(try with_reducible rfl))
    try simp only [Act.put,List.setIfInBounds_toArray,List.set_cons_zero,List.set_cons_succ]
    refine' wpAnyH_take (i:=26) (oi:=⟨some 69,_,_,_,_,_⟩) (v:=_) rfl (by kernel_rfl) (by kernel_rfl) (by kernel_rfl) (fun _ _ _ h=>h) (Or.inl ⟨by rfl,?_⟩) hHeld ?_
    rotate_left
    ·(intro w' hSw;(try dsimp only at hSw);go_simp;(try with_reducible rfl))
    try simp only [Act.put,List.setIfInBounds_toArray,List.set_cons_zero,List.set_cons_succ]
    refine' wpAnyH_take (i:=27) (oi:=⟨some 70,_,_,_,_,_⟩) (v:=_) rfl (by kernel_rfl) (by kernel_rfl) (by kernel_rfl) (fun _ _ _ h=>h) (Or.inl ⟨by rfl,?_⟩) hHeld ?_
    rotate_left
    ·(intro w' hSw;(try dsimp only at hSw);go_simp;(try with_reducible rfl))
    try simp only [Act.put,List.setIfInBounds_toArray,List.set_cons_zero,List.set_cons_succ]
    refine' wpAnyH_take (i:=28) (oi:=⟨some 71,_,_,_,_,_⟩) (v:=_) rfl (by kernel_rfl) (by kernel_rfl) (by kernel_rfl) (fun _ _ _ h=>h) (Or.inl ⟨by rfl,?_⟩) hHeld ?_
    rotate_left
    ·(intro w' hSw;(try dsimp only at hSw);go_simp;(try with_reducible rfl))
    try simp only [Act.put,List.setIfInBounds_toArray,List.set_cons_zero,List.set_cons_succ]
    refine' wpAnyH_take (i:=29) (oi:=⟨some 72,_,_,_,_,_⟩) (v:=_) rfl (by kernel_rfl) (by kernel_rfl) (by kernel_rfl) (fun _ _ _ h=>h) (Or.inl ⟨by rfl,?_⟩) hHeld ?_
    rotate_left
    ·(intro w' hSw;(try dsimp only at hSw);go_simp;(try with_reducible rfl))
    try simp only [Act.put,List.setIfInBounds_toArray,List.set_cons_zero,List.set_cons_succ]
    refine' wpAnyH_take (i:=30) (oi:=⟨some 73,_,_,_,_,_⟩) (v:=_) rfl (by kernel_rfl) (by kernel_rfl) (by kernel_rfl) (fun _ _ _ h=>h) (Or.inl ⟨by rfl,?_⟩) hHeld ?_
    rotate_left
    ·(intro w' hSw;(try dsimp only at hSw);go_simp;(try with_reducible rfl))
    try simp only [Act.put,List.setIfInBounds_toArray,List.set_cons_zero,List.set_cons_succ]
    refine' wpAnyH_take (i:=32) (oi:=⟨some 75,_,_,_,_,_⟩) (v:=_) rfl (by kernel_rfl) (by kernel_rfl) (by kernel_rfl) (fun _ _ _ h=>h) (Or.inl ⟨by rfl,?_⟩) hHeld ?_
    rotate_left
    ·(intro w' hSw;(try dsimp only at hSw);go_simp;(try with_reducible rfl))
    try simp only [Act.put,List.setIfInBounds_toArray,List.set_cons_zero,List.set_cons_succ]
    refine' wpAnyH_take (i:=33) (oi:=⟨some 76,_,_,_,_,_⟩) (v:=_) rfl (by kernel_rfl) (by kernel_rfl) (by kernel_rfl) (fun _ _ _ h=>h) (Or.inl ⟨by rfl,?_⟩) hHeld ?_
    rotate_left
    ·(intro w' hSw;(try dsimp only at hSw);go_simp;(try with_reducible rfl))
    try simp only [Act.put,List.setIfInBounds_toArray,List.set_cons_zero,List.set_cons_succ]
    refine wpAnyH_ready (rs:=[31]) (by kernel_rfl) (by simp) ?_
    refine AllReadyH.cons (i:=31) rfl (fun K hK=> ?_) AllReadyH.nil
    go_simp
    (go_at_call 40;refine (HDG.out _ z (HX3.out.trans hHeld.1)).mono ?_;rintro e w7 ⟨rfl,hx7⟩)
    try go_wp2_with fail
    refine hK.out _ _ ?_ (fun hHeld=> ?_)
    ·exact HKP.out _ _ hHeld hx7
    clear hK K
    try simp only [Act.put,List.setIfInBounds_toArray,List.set_cons_zero,List.set_cons_succ]
    refine wpAnyH_ready (rs:=[34]) (by kernel_rfl) (by simp) ?_
    refine AllReadyH.cons (i:=34) rfl (fun K hK=> ?_) AllReadyH.nil
    go_simp
    (go_at_call 41;refine (HDR.out _ z (HX3.out.trans hHeld.1)).mono ?_;rintro e w8 ⟨rfl,hx8⟩)
    try go_wp2_with fail
    refine hK.out _ _ ?_ (fun hHeld=> ?_)
    ·exact HKP.out _ _ hHeld hx8
    clear hK K
    try simp only [Act.put,List.setIfInBounds_toArray,List.set_cons_zero,List.set_cons_succ]
    refine' wpAnyH_take (i:=35) (oi:=⟨some 78,_,_,_,_,_⟩) (v:=_) rfl (by kernel_rfl) (by kernel_rfl) (by kernel_rfl) (fun _ _ _ h=>h) (Or.inl ⟨by rfl,?_⟩) hHeld ?_
    rotate_left
    ·(intro w' hSw;(try dsimp only at hSw);go_simp;(try with_reducible rfl))
    try simp only [Act.put,List.setIfInBounds_toArray,List.set_cons_zero,List.set_cons_succ]
    refine' wpAnyH_take (i:=36) (oi:=⟨some 79,_,_,_,_,_⟩) (v:=_) rfl (by kernel_rfl) (by kernel_rfl) (by kernel_rfl) (fun _ _ _ h=>h) (Or.inl ⟨by rfl,?_⟩) hHeld ?_
    rotate_left
    ·(intro w' hSw;(try dsimp only at hSw);go_simp;(try with_reducible rfl))
    try simp only [Act.put,List.setIfInBounds_toArray,List.set_cons_zero,List.set_cons_succ]
    refine' wpAnyH_take (i:=37) (oi:=⟨some 80,_,_,_,_,_⟩) (v:=_) rfl (by kernel_rfl) (by kernel_rfl) (by kernel_rfl) (fun _ _ _ h=>h) (Or.inl ⟨by rfl,?_⟩) hHeld ?_
    rotate_left
    ·(intro w' hSw;(try dsimp only at hSw);go_simp;(try with_reducible rfl))
    try simp only [Act.put,List.setIfInBounds_toArray,List.set_cons_zero,List.set_cons_succ]
    refine' wpAnyH_take (i:=38) (oi:=⟨some 81,_,_,_,_,_⟩) (v:=_) rfl (by kernel_rfl) (by kernel_rfl) (by kernel_rfl) (fun _ _ _ h=>h) (Or.inl ⟨by rfl,?_⟩) hHeld ?_
    rotate_left
    ·(intro w' hSw;(try dsimp only at hSw);go_simp;(try with_reducible rfl))
    try simp only [Act.put,List.setIfInBounds_toArray,List.set_cons_zero,List.set_cons_succ]
    refine' wpAnyH_take (i:=39) (oi:=⟨some 82,_,_,_,_,_⟩) (v:=_) rfl (by kernel_rfl) (by kernel_rfl) (by kernel_rfl) (fun _ _ _ h=>h) (Or.inl ⟨by rfl,?_⟩) hHeld ?_
    rotate_left
    ·(intro w' hSw;(try dsimp only at hSw);go_simp;(try with_reducible rfl))
    try simp only [Act.put,List.setIfInBounds_toArray,List.set_cons_zero,List.set_cons_succ]
    refine' wpAnyH_take (i:=41) (oi:=⟨some 84,_,_,_,_,_⟩) (v:=_) rfl (by kernel_rfl) (by kernel_rfl) (by kernel_rfl) (fun _ _ _ h=>h) (Or.inl ⟨by rfl,?_⟩) hHeld ?_
    rotate_left
    ·(intro w' hSw;(try dsimp only at hSw);go_simp;(try with_reducible rfl))
    try simp only [Act.put,List.setIfInBounds_toArray,List.set_cons_zero,List.set_cons_succ]
    refine' wpAnyH_take (i:=42) (oi:=⟨some 85,_,_,_,_,_⟩) (v:=_) rfl (by kernel_rfl) (by kernel_rfl) (by kernel_rfl) (fun _ _ _ h=>h) (Or.inl ⟨by rfl,?_⟩) hHeld ?_
    rotate_left
    ·(intro w' hSw;(try dsimp only at hSw);go_simp;(try with_reducible rfl))
    try simp only [Act.put,List.setIfInBounds_toArray,List.set_cons_zero,List.set_cons_succ]
    refine wpAnyH_ready (rs:=[40]) (by kernel_rfl) (by simp) ?_
    refine AllReadyH.cons (i:=40) rfl (fun K hK=> ?_) AllReadyH.nil
    go_simp
    (go_at_call 43;refine (HNG.out _ z (HX3.out.trans hHeld.1)).mono ?_;rintro e w9 ⟨v9,l9,rfl,ha9,hv9,hl9,hx9⟩;have HA9:=Lib.hid ha9;have HV9:=Lib.hid hv9;have HL9:=Lib.hid hl9;obtain ⟨m9,A9,c9,rfl⟩:=ha9.shape;clear ha9 hv9 hl9)
    try go_wp2_with fail
    refine hK.out _ _ ?_ (fun hHeld=> ?_)
    ·exact HKP.out _ _ hHeld hx9
    clear hK K
    try simp only [Act.put,List.setIfInBounds_toArray,List.set_cons_zero,List.set_cons_succ]
    refine wpAnyH_ready (rs:=[43]) (by kernel_rfl) (by simp) ?_
    refine AllReadyH.cons (i:=43) rfl (fun K hK=> ?_) AllReadyH.nil
    go_simp
    (go_at_call 44;refine (HNR.out _ z (HX3.out.trans hHeld.1)).mono ?_;rintro e w10 ⟨v10,l10,rfl,ha10,hv10,hl10,hx10⟩;obtain rfl:l10=l9:=hv10.uniq HV9.out;have HA10:=Lib.hid ha10;have HA9:=Lib.hid (HA9.out.ext hx10);obtain ⟨m10,A10,c10,rfl⟩:=ha10.shape;clear ha10 hv10 hl10)
    try go_wp2_with fail
    refine hK.out _ _ ?_ (fun hHeld=> ?_)
    ·exact HKP.out _ _ hHeld hx10
    clear hK K
    try simp only [Act.put,List.setIfInBounds_toArray,List.set_cons_zero,List.set_cons_succ]
    refine wpAnyH_ready (rs:=[44]) (by kernel_rfl) (by simp) ?_
    refine AllReadyH.cons (i:=44) rfl (fun K hK=> ?_) AllReadyH.nil
    go_simp
    (go_at_call 42;refine (HST.out _ _ _ _ HA9.out HA10.out HL9.out).mono ?_;rintro e w11 ⟨rfl,hx11⟩)
    try go_wp2_with fail
    refine hK.out _ _ ?_ (fun hHeld=> ?_)
    ·exact HKP.out _ _ hHeld hx11
    clear hK K
    try simp only [Act.put,List.setIfInBounds_toArray,List.set_cons_zero,List.set_cons_succ]
    refine' wpAnyH_take (i:=45) (oi:=⟨some 88,_,_,_,_,_⟩) (v:=_) rfl (by kernel_rfl) (by kernel_rfl) (by kernel_rfl) (fun _ _ _ h=>h) (Or.inl ⟨by rfl,?_⟩) hHeld ?_
    rotate_left
    ·(intro w' hSw;(try dsimp only at hSw);go_simp;(try with_reducible rfl))
    try simp only [Act.put,List.setIfInBounds_toArray,List.set_cons_zero,List.set_cons_succ]
    refine wpAnyH_ready (rs:=[46]) (by kernel_rfl) (by simp) ?_
    refine AllReadyH.cons (i:=46) rfl (fun K hK=> ?_) AllReadyH.nil
    go_simp
    try go_wp2_with fail
    refine hK.out _ _ ?_ (fun hHeld=> ?_)
    ·exact hHeld
    clear hK K
    try simp only [Act.put,List.setIfInBounds_toArray,List.set_cons_zero,List.set_cons_succ]
    refine wpAnyH_done (by kernel_rfl) ?_ _
    have HXE:=Lib.hid (HX3.out.trans hHeld.1)
    clear hHeld HQ HB HX3 HKP hx6 hx7 hx8 hx9 hx10 hx11 HA9 HA10 HV9 HL9
    go_wp2_with fail
    go_roundw
    case rel=>exact ⟨z+1,by omega,by omega,by go_num,HXE.out⟩
    case measure=>simp [intOf]<;>omega
  ·have hdz:decide (z≤(ns.length:Int))=false:=decide_eq_false hzn
   go_wp2_with fail
   go_ret
   exact ⟨rfl,HX.out⟩
end Big
end Go.Proofs.YtaccjdbbkmhanaaGreatDoor
namespace Go.Proofs.YtaccjdbbkmhanaaGreatDoor
namespace Big
open Go.RowKit
structure WrAt (w0:World) (g bg bw bo:Nat) (w:World) (v:Value) (xs:List Nd):Prop where
 ext:Ext w0 w
 pg:Blk w bg 29 #[.pointer (some ⟨g,0,none⟩)]
 pw:Blk w bw 67 #[.func (.func 48) #[] #[.pointer (some ⟨bg,0,none⟩),.pointer (some ⟨bw,0,none⟩),.pointer (some ⟨bo,0,none⟩)]]
 po:Blk w bo 25 #[v]
 row:OwnNd w0.heap.size w v xs
 lg:w0.heap.size≤bg
 lw:w0.heap.size≤bw
 lo:w0.heap.size≤bo
 n1:bg≠bo
 n2:bw≠bo
theorem WrAt.apart {w0 w:World} {g bg bw bo:Nat} {v:Value} {xs:List Nd} (h:WrAt w0 g bg bw bo w v xs):v.ownBlock≠some bg∧v.ownBlock≠some bw∧v.ownBlock≠some bo:=by
 have hr:=h.row
 have key:∀(q:Nat) (t:TypeId) (cs:Array Value),Blk w q t cs→t≠50→v.ownBlock≠some q:=by
  intro q t cs hb ht e
  unfold OwnNd at hr
  unfold Blk at hb
  rcases hr.2 with ⟨rfl,_⟩|⟨q',cap,cur,rfl,_,hh,_⟩
  ·cases e
  ·simp only [Value.ownBlock,Option.some.injEq] at e
   subst e
   rw [hb] at hh
   injection hh with hh
   injection hh with _ hh _
   exact ht hh
 exact ⟨key bg _ _ h.pg (by decide),key bw _ _ h.pw (by decide),key bo _ _ h.po (by decide)⟩
theorem WrAt.keep {w0 w w':World} {g bg bw bo:Nat} {v:Value} {xs:List Nd} (h:WrAt w0 g bg bw bo w v xs) (hx:Ext w w'):WrAt w0 g bg bw bo w' v xs:=
 ⟨h.ext.trans hx,h.pg.ext hx,h.pw.ext hx,h.po.ext hx,h.row.ext hx,h.lg,h.lw,h.lo,h.n1,h.n2⟩
def WrPost (w0:World) (g bg bw bo:Nat) (w:World) (v:Value) (xs:List Nd) (e:Ex) (r:Ending) (w':World):Prop:=
 ∃v',r= .returned (.int .i64 ((xs.length+e.size-1:Nat):Int))∧KG bo bo v v' w w'∧WrAt w0 g bg bw bo w' v' (xs++flat xs.length e)
theorem WrAt.next {w0 W w':World} {g bg bw bo g6 c6:Nat} {v:Value} {xs:List Nd} {nd:Nd} {o:Obj} (h:WrAt w0 g bg bw bo W v xs) (hgr:(W.alloc o).grownBy w' v.ownBlock) (hat:v.ownBlock=some g6∨g6=(W.alloc o).heap.size)
  (hn:OwnNd w0.heap.size w' (.slice (some ⟨g6,0,none⟩) (xs.length+1) c6) (xs++[nd])):
  WrAt w0 g bg bw bo (w'.setCell ⟨bo,0,none⟩ (.slice (some ⟨g6,0,none⟩) (xs.length+1) c6)) (.slice (some ⟨g6,0,none⟩) (xs.length+1) c6) (xs++[nd])∧KG bo bo v (.slice (some ⟨g6,0,none⟩) (xs.length+1) c6) W (w'.setCell ⟨bo,0,none⟩ (.slice (some ⟨g6,0,none⟩) (xs.length+1) c6))∧Blk w' bo 25 #[v]:=by
 obtain ⟨a1,a2,a3⟩:=h.apart
 have hs:(W.alloc o).heap.size=W.heap.size+1:=by simp
 have hkeep:∀k,k<W.heap.size→v.ownBlock≠some k→w'.heap[k]? =W.heap[k]? :=fun k hk hne=>(hgr.block k (by omega) (fun e=>hne e.symm)).trans (Below.heap_alloc W o k hk)
 have hw0:=h.ext.size
 have hsz:=hgr.size
 have hbo:Blk w' bo 25 #[v]:=(hkeep bo h.po.lt a3).trans h.po
 have hg6:g6≠bo:=by
  rcases hat with h5|h5
  ·exact fun e=>a3 (by rw [h5,e])
  ·have:=h.po.lt;omega
 have hext':Ext w0 w':=⟨hgr.os.trans h.ext.os,hgr.tape.trans h.ext.tape,hgr.output.trans h.ext.output,by omega,fun k hk=>(hkeep k (by omega) (fun e=>by have:=ownsRow_block h.row k e;omega)).trans (h.ext.block k hk)⟩
 refine ⟨⟨hext'.setCell (p:=⟨bo,0,none⟩) h.lo _,?_,?_,?_,?_,h.lg,h.lw,h.lo,h.n1,h.n2⟩,?_,hbo⟩
 ·exact (Blk.far ((hkeep bg h.pg.lt a1).trans h.pg:Blk w' bg _ _) (p:=⟨bo,0,none⟩) h.n1 _)
 ·exact (Blk.far ((hkeep bw h.pw.lt a2).trans h.pw:Blk w' bw _ _) (p:=⟨bo,0,none⟩) h.n2 _)
 ·exact hbo.set_ 0 _
 ·exact ownsRow_at hn (fun k hk=>Below.heap_setCell _ _ _ k (fun e=>hg6 (by
   have h6:g6=k:=Option.some.inj hk
   rw [h6];exact e)))
 ·have hb:=Below.setCell (Below.refl bo w') (p:=⟨bo,0,none⟩) (Nat.le_refl _) (.slice (some ⟨g6,0,none⟩) (xs.length+1) c6)
  refine ⟨hb.os.trans (hgr.os),hb.tape.trans hgr.tape,hb.output.trans hgr.output,Nat.le_trans (by omega) hb.size,fun k p1 p2 _ p4=>(Below.heap_setCell _ _ _ k p2).trans (hkeep k p1 p4),fun j hj=> ?_⟩
  have h6:g6=j:=Option.some.inj hj
  rcases hat with h5|h5
  ·exact .inl (by rw [h5,h6])
  ·exact .inr (by omega)
theorem WrAt.far {w0 w:World} {g bg bw bo nb:Nat} {v:Value} {xs:List Nd} (h:WrAt w0 g bg bw bo w v xs) (h0:w0.heap.size≤nb) (h1:nb≠bg) (h2:nb≠bw) (h3:nb≠bo) (h4:v.ownBlock≠some nb) (j:Nat) (u:Value):WrAt w0 g bg bw bo (w.setCell ⟨nb,j,none⟩ u) v xs:=
 ⟨h.ext.setCell (p:=⟨nb,j,none⟩) h0 u,h.pg.far (p:=⟨nb,j,none⟩) (fun e=>h1 e.symm) u,h.pw.far (p:=⟨nb,j,none⟩) (fun e=>h2 e.symm) u,h.po.far (p:=⟨nb,j,none⟩) (fun e=>h3 e.symm) u,ownsRow_at h.row (fun k hk=>Below.heap_setCell _ _ _ k (fun e=>h4 (by rw [hk];exact congrArg some e))),h.lg,h.lw,h.lo,h.n1,h.n2⟩
theorem KG.setNew {g b nb:Nat} {n1 n2:Value} {w w':World} (h:KG g b n1 n2 w w') (h0:w.heap.size≤nb) (j:Nat) (u:Value):KG g b n1 n2 w (w'.setCell ⟨nb,j,none⟩ u):=by
 have hb:=Below.setCell (Below.refl nb w') (p:=⟨nb,j,none⟩) (Nat.le_refl _) u
 exact ⟨hb.os.trans h.os,hb.tape.trans h.tape,hb.output.trans h.output,Nat.le_trans h.size hb.size,fun k p1 p2 p3 p4=>(Below.heap_setCell _ _ _ k (by show k≠nb;omega)).trans (h.block k p1 p2 p3 p4),h.move⟩
set_option maxHeartbeats 8000000 in
set_option maxRecDepth 100000 in
theorem write_any (B g b:Nat) (w0:World) (ns:List Nd) (nv:Value) (hg:GrP B g b w0 ns nv) (bg bw bo:Nat) (e:Ex):∀(i:Nat) (w:World) (v:Value) (xs:List Nd),e.Good→Rep ns i e→WrAt w0 g bg bw bo w v xs→xs.length+e.size≤4096→
  Calls Tryz.prog 48 #[.int .i64 (i:Int),.pointer (some ⟨bg,0,none⟩),.pointer (some ⟨bw,0,none⟩),.pointer (some ⟨bo,0,none⟩)] w (WrPost w0 g bg bw bo w v xs e):=by
 induction e with
 |leaf k t=>
  intro i w v xs hgd hrep hw hlen
  have hx:ns[i]? =some ⟨(k:Int),0,0,0,t⟩:=hrep
  have hi:i<ns.length:=(List.getElem?_eq_some_iff.1 hx).1
  have hok:=hg.ok.2 i _ hx
  have hfew:=hg.few
  have HGO:=Lib.hid (fun W=>gops_any W ⟨(k:Int),0,0,0,t⟩ hok)
  have hag:argsG ⟨(k:Int),0,0,0,t⟩=[]:=argsG_leaf (show LeafOk k t from hgd)
  rw [hag] at HGO
  unfold GopsPost at HGO
  obtain ⟨i0,hif,hz0,hz1,hz2⟩:=info_parts info_node
  obtain ⟨gb,o,hA,hgw,hc⟩:∃gb o,(∃c,nv= .slice (some ⟨gb,o,none⟩) ns.length c)∧gb<w0.heap.size∧NdAt w0 gb (o+i*5) ⟨(k:Int),0,0,0,t⟩:=by
   obtain ⟨A,c,rfl,h1⟩:=hg.row.read
   obtain ⟨gb,o,rfl,h2,h3⟩:=h1 (by omega)
   have h4:=h3 i hi
   rw [(List.getElem?_eq_some_iff.1 hx).2] at h4
   exact ⟨gb,o,⟨c,rfl⟩,h2,h4⟩
  obtain ⟨cg,hnv⟩:=hA
  obtain ⟨p0,p1,p2,p3,p4⟩:=hc
  rw [←hw.ext.cell hgw] at p0 p1 p2 p3 p4
  obtain ⟨k0,k1,f0,f1,hgz⟩:=(hg.keep hw.ext).blk.twoG
  rw [hnv] at k0
  obtain ⟨g0,gf0,ghz⟩:=hw.pg.oneG
  have HW:=Lib.hid hw
  have hwz:=hw.ext.size
  have hbo:=hw.po.lt
  have hi0:(0:Int)≤(i:Int):=by omega
  have hin:(i:Int)<(ns.length:Int):=by omega
  have hvn:v.ownBlock≠some w.heap.size:=fun e=>by have:=ownsRow_ltG hw.row e;omega
  obtain ⟨A1,c1,rfl⟩:=hw.row.shape
  simp only [ndV] at HGO
  simp only at p0 p1 p2 p3 p4
  generalize hkk:(k:Int)=kk at *
  obtain ⟨s,hs⟩:∃s:ByteArray,s=⟨(t:List UInt8).toArray⟩:=⟨_,rfl⟩
  have HNC:Hid (∀za zb:Int,ndC ⟨kk,za,zb,0,t⟩=[.int .i64 kk,.int .i64 za,.int .i64 zb,.int .i64 0,.string s]):=Lib.hid (fun za zb=>by rw [hs];rfl)
  have hst:str t= .string s:=by rw [hs];rfl
  rw [hst] at p4 HGO
  clear hs hst hok hx hi hw
  have HNB3:=Lib.hid (Blk.new w 50 #[.int .i64 kk,.int .i64 0,.int .i64 0,.int .i64 0,.string s])
  have HX3:=Lib.hid ((Ext.refl w).alloc (.cells #[.int .i64 kk,.int .i64 0,.int .i64 0,.int .i64 0,.string s] 50))
  obtain ⟨nb,hnb⟩:∃nb,nb=w.heap.size:=⟨_,rfl⟩
  obtain ⟨w3,hw3⟩:∃w3,w3=w.alloc (.cells #[.int .i64 kk,.int .i64 0,.int .i64 0,.int .i64 0,.string s] 50):=⟨_,rfl⟩
  rw [←hw3,←hnb] at HNB3
  rw [←hw3] at HX3
  rw [←hnb] at hvn
  go_enter Tryz.func48,Tryz.ntmps48
  go_upto_region 2 with fail
  rw [←hw3,←hnb]
  have HNBS:Hid (nb=w.heap.size):=Lib.hid hnb
  have HN1:Hid (w0.heap.size≤nb∧nb≠bg∧nb≠bw∧nb≠bo∧w.heap.size≤nb):=Lib.hid (by have h1:=HW.out.pg.lt;have h2:=HW.out.pw.lt;exact ⟨by omega,by omega,by omega,by omega,by omega⟩)
  clear hw3 hnb p0 p1 p2 p3 p4 k0 k1 f0 f1 g0 gf0
  obtain ⟨q0,q1,q2,q3,q4⟩:=HNB3.out.five
  go_wp2_with fail
  refine (HGO.out w3).mono ?_
  rintro e w4 ⟨A3,c3,rfl,hx4,hc3⟩
  have HW4:=Lib.hid (HW.out.keep (HX3.out.trans hx4))
  have HNB4:=Lib.hid (HNB3.out.ext hx4)
  have HK4:Hid (KG bo bo (.slice A1 xs.length c1) (.slice A1 xs.length c1) w w4):=Lib.hid (KG.of_ext (HX3.out.trans hx4))
  have hs34:=HX3.out.size
  clear q0 q1 q2 q3 q4 HGO hx4
  have hz:([]:List Nat).length=0:=rfl
  rw [hz]
  clear hc3 hz
  go_wp2_with fail
  go_loopw [26] (fun s26 wr=>s26= .int .i64 0∧WrAt w0 g bg bw bo wr (.slice A1 xs.length c1) xs∧Blk wr nb 50 #[.int .i64 kk,.int .i64 0,.int .i64 0,.int .i64 0,.string s]∧KG bo bo (.slice A1 xs.length c1) (.slice A1 xs.length c1) w wr) (fun s26 _=>0-(intOf s26).toNat)
  case atStart=>exact ⟨rfl,HW4.out,HNB4.out,HK4.out⟩
  case round=>
   clear HW4 HNB4 HK4
   obtain ⟨rfl,hwr,hnb,hkg⟩:=hrel
   have HWR:=Lib.hid hwr
   have HNB:=Lib.hid hnb
   have HKG:=Lib.hid hkg
   clear hwr hnb hkg
   have hlen':xs.length+1≤4096:=hlen
   obtain ⟨m2,hm2⟩:∃m2,m2=xs.length:=⟨_,rfl⟩
   have HLN:=Lib.hid hm2
   rw [←hm2] at HWR HKG hlen' ⊢
   clear hm2 hlen
   unfold WrPost
   have hm4:m2≤4096:=by omega
   have HNX:=Lib.hid (fun w6 g6 c6 o hgr hat hn=>WrAt.next (w':=w6) (g6:=g6) (c6:=c6) (o:=o) (nd:=⟨kk,0,0,0,t⟩) HWR.out hgr hat hn)
   have hwz:=HWR.out.ext.size
   have HRA:Hid ((wr.alloc (.cells #[.int .i64 kk,.int .i64 0,.int .i64 0,.int .i64 0,.string s] 50)).ownsRow w0.heap.size 50 5 (.slice A1 m2 c1) m2 (ndsC xs)):=Lib.hid (ownsRow_below (by have h:=HWR.out.row;unfold OwnNd at h;rw [←HLN.out] at h;exact h) (fun k _ hk=>Below.heap_alloc _ _ k hk))
   have HNW:=Lib.hid (newsL wr 50 [.int .i64 kk,.int .i64 0,.int .i64 0,.int .i64 0,.string s])
   have HBB1:Hid (m2+1≤maxLen):=Lib.hid (by unfold maxLen;omega)
   have HBB2:Hid ((m2+1)*48≤140737488355328):=Lib.hid (by omega)
   have HBB3:Hid (w0.heap.size≤(wr.alloc (.cells #[.int .i64 kk,.int .i64 0,.int .i64 0,.int .i64 0,.string s] 50)).heap.size):=Lib.hid (by simp;omega)
   obtain ⟨q0,q1,q2,q3,q4⟩:=HNB.out.five
   obtain ⟨o0,of0,ohz⟩:=HWR.out.po.oneG
   have hw1:IntKind.i64.wrap ((m2:Int)+1-1)=(m2:Int):=by rw [IntKind.wrap_i64];omega
   have hw2:IntKind.i64.wrap (((m2+1:Nat):Int)-1)=(m2:Int):=by rw [IntKind.wrap_i64];omega
   go_wp2_with (at_builtin;go_must (refine wpList_append_lies _ rfl _ _ 25 rfl w0.heap.size 50 i0 _ 5 48 Tryz.underlying25 hif hz0 hz1 hz2 rfl (by decide) (.slice A1 m2 c1) m2 (ndsC xs) rfl HRA.out ⟨wr.heap.size,0,none⟩ 1 1 [.int .i64 kk,.int .i64 0,.int .i64 0,.int .i64 0,.string s] rfl rfl HNW.out (by simp [Value.oneCell']) (by decide) HBB1.out HBB2.out HBB3.out _ rfl ?_;intro g6 c6 w6 hown6 hgr6 hat6 hlt6;have HO6:Hid (OwnNd w0.heap.size w6 (.slice (some ⟨g6,0,none⟩) (xs.length+1) c6) (xs++[⟨kk,0,0,0,t⟩])):=Lib.hid (by unfold OwnNd;rw [ndsC_append,ndsC_one,HNC.out,List.length_append,List.length_singleton,←HLN.out];exact hown6);have HFF:=Lib.hid (HNX.out w6 g6 c6 _ hgr6 hat6 HO6.out);clear hown6 hgr6 hat6 hlt6;rw [←HLN.out] at HFF;obtain ⟨o1,of1,ohz1⟩:=HFF.out.2.2.oneG;obtain ⟨u0,uf0,uhz⟩:=HFF.out.1.po.oneG))
   go_ret
   have e:=HLN.out
   subst e
   refine ⟨_,?_,HKG.out.trans HFF.out.2.1,?_⟩
   ·have hv:xs.length+1-1=xs.length:=by omega
    show _=Ending.returned (.int .i64 ((xs.length+1-1:Nat):Int))
    rw [hv]
    rfl
   ·have h:=HFF.out.1
    rw [flat,hkk]
    exact h
 |un k n x ih=>
  intro i w v xs hgd hrep hw hlen
  obtain ⟨j,hrj,hx⟩:=hrep
  have HIH:=Lib.hid (fun W v xs h hl=>ih j W v xs hgd.2.2.2.2 hrj h hl)
  have hi:i<ns.length:=(List.getElem?_eq_some_iff.1 hx).1
  have hok:=hg.ok.2 i _ hx
  have hfew:=hg.few
  have HGO:=Lib.hid (fun W=>gops_any W ⟨(k:Int),(j:Int),0,n,[]⟩ hok)
  have hag:argsG ⟨(k:Int),(j:Int),0,n,[]⟩=[j]:=argsG_un (show UnOk k n from ⟨hgd.1,hgd.2.1,hgd.2.2.1,hgd.2.2.2.1⟩)
  rw [hag] at HGO
  unfold GopsPost at HGO
  obtain ⟨i0,hif,hz0,hz1,hz2⟩:=info_parts info_node
  obtain ⟨gb,o,hA,hgw,hc⟩:∃gb o,(∃c,nv= .slice (some ⟨gb,o,none⟩) ns.length c)∧gb<w0.heap.size∧NdAt w0 gb (o+i*5) ⟨(k:Int),(j:Int),0,n,[]⟩:=by
   obtain ⟨A,c,rfl,h1⟩:=hg.row.read
   obtain ⟨gb,o,rfl,h2,h3⟩:=h1 (by omega)
   have h4:=h3 i hi
   rw [(List.getElem?_eq_some_iff.1 hx).2] at h4
   exact ⟨gb,o,⟨c,rfl⟩,h2,h4⟩
  obtain ⟨cg,hnv⟩:=hA
  obtain ⟨p0,p1,p2,p3,p4⟩:=hc
  rw [←hw.ext.cell hgw] at p0 p1 p2 p3 p4
  obtain ⟨k0,k1,f0,f1,hgz⟩:=(hg.keep hw.ext).blk.twoG
  rw [hnv] at k0
  obtain ⟨g0,gf0,ghz⟩:=hw.pg.oneG
  have HW:=Lib.hid hw
  have hwz:=hw.ext.size
  have hbo:=hw.po.lt
  have hi0:(0:Int)≤(i:Int):=by omega
  have hin:(i:Int)<(ns.length:Int):=by omega
  have hvn:v.ownBlock≠some w.heap.size:=fun e=>by have:=ownsRow_ltG hw.row e;omega
  obtain ⟨A1,c1,rfl⟩:=hw.row.shape
  simp only [ndV] at HGO
  simp only at p0 p1 p2 p3 p4
  generalize hkk:(k:Int)=kk at *
  obtain ⟨s,hs⟩:∃s:ByteArray,s=⟨([]:List UInt8).toArray⟩:=⟨_,rfl⟩
  have HNC:Hid (∀za zb:Int,ndC ⟨kk,za,zb,n,[]⟩=[.int .i64 kk,.int .i64 za,.int .i64 zb,.int .i64 n,.string s]):=Lib.hid (fun za zb=>by rw [hs];rfl)
  have hst:str []= .string s:=by rw [hs];rfl
  rw [hst] at p4 HGO
  clear hs hst hok hx hi hw
  have HNB3:=Lib.hid (Blk.new w 50 #[.int .i64 kk,.int .i64 (j:Int),.int .i64 0,.int .i64 n,.string s])
  have HX3:=Lib.hid ((Ext.refl w).alloc (.cells #[.int .i64 kk,.int .i64 (j:Int),.int .i64 0,.int .i64 n,.string s] 50))
  obtain ⟨nb,hnb⟩:∃nb,nb=w.heap.size:=⟨_,rfl⟩
  obtain ⟨w3,hw3⟩:∃w3,w3=w.alloc (.cells #[.int .i64 kk,.int .i64 (j:Int),.int .i64 0,.int .i64 n,.string s] 50):=⟨_,rfl⟩
  rw [←hw3,←hnb] at HNB3
  rw [←hw3] at HX3
  rw [←hnb] at hvn
  go_enter Tryz.func48,Tryz.ntmps48
  go_upto_region 2 with fail
  rw [←hw3,←hnb]
  have HNBS:Hid (nb=w.heap.size):=Lib.hid hnb
  have HN1:Hid (w0.heap.size≤nb∧nb≠bg∧nb≠bw∧nb≠bo∧w.heap.size≤nb):=Lib.hid (by have h1:=HW.out.pg.lt;have h2:=HW.out.pw.lt;exact ⟨by omega,by omega,by omega,by omega,by omega⟩)
  clear hw3 hnb p0 p1 p2 p3 p4 k0 k1 f0 f1 g0 gf0
  obtain ⟨q0,q1,q2,q3,q4⟩:=HNB3.out.five
  go_wp2_with fail
  refine (HGO.out w3).mono ?_
  rintro e w4 ⟨A3,c3,rfl,hx4,hc3⟩
  have HW4:=Lib.hid (HW.out.keep (HX3.out.trans hx4))
  have HNB4:=Lib.hid (HNB3.out.ext hx4)
  have HK4:Hid (KG bo bo (.slice A1 xs.length c1) (.slice A1 xs.length c1) w w4):=Lib.hid (KG.of_ext (HX3.out.trans hx4))
  have hs34:=HX3.out.size
  clear q0 q1 q2 q3 q4 HGO hx4
  have hz:([j]:List Nat).length=1:=rfl
  rw [hz] at hc3 ⊢
  clear hz
  obtain ⟨b3,rfl,hb3a,hb3b,hcell⟩:=hc3 (by decide)
  clear hc3
  have y0:w4.cell? ⟨b3,0,none⟩=some (.int .i64 (j:Int)):=hcell 0 (by decide)
  have hs3:=HNB3.out.lt
  have HB3:Hid (b3≠bo∧(Value.slice A1 xs.length c1).ownBlock≠some b3∧b3≠nb):=Lib.hid ⟨by have:=HN1.out;omega,fun e=>by have:=ownsRow_ltG HW.out.row e;omega,by omega⟩
  clear hcell hb3a hb3b hs3
  have hsz:xs.length+(x.size+1)≤4096:=hlen
  clear hlen
  obtain ⟨xs1,hxs1⟩:∃xs1,xs1=xs++flat xs.length x:=⟨_,rfl⟩
  have hl1:xs1.length=xs.length+x.size:=by rw [hxs1,List.length_append,flat_len]
  have HXS1:=Lib.hid hxs1
  have HL1:=Lib.hid hl1
  obtain ⟨ix,hix⟩:∃ix:Int,ix=((xs.length+x.size-1:Nat):Int):=⟨_,rfl⟩
  have HIX1:=Lib.hid hix
  clear hxs1 hix hl1
  have hw1':IntKind.i64.wrap ((0:Int)+1)=1:=by decide
  have hw2':IntKind.i64.wrap ((1:Int)+1)=2:=by decide
  go_wp2_with fail
  go_loopw [26] (fun s26 wr=>(s26= .int .i64 0∧WrAt w0 g bg bw bo wr (.slice A1 xs.length c1) xs∧Blk wr nb 50 #[.int .i64 kk,.int .i64 (j:Int),.int .i64 0,.int .i64 n,.string s]∧KG bo bo (.slice A1 xs.length c1) (.slice A1 xs.length c1) w wr∧wr.cell? ⟨b3,0,none⟩=some (.int .i64 (j:Int)))∨(s26= .int .i64 1∧∃v1,v1.ownBlock≠some nb∧WrAt w0 g bg bw bo wr v1 xs1∧Blk wr nb 50 #[.int .i64 kk,.int .i64 ix,.int .i64 0,.int .i64 n,.string s]∧KG bo bo (.slice A1 xs.length c1) v1 w wr)) (fun s26 _=>1-(intOf s26).toNat)
  case atStart=>exact .inl ⟨rfl,HW4.out,HNB4.out,HK4.out,y0⟩
  case round=>
   clear HW4 HNB4 HK4 y0
   rcases hrel with ⟨rfl,hwr,hnb,hkg,y0⟩|⟨rfl,v1,hvn1,hwr,hnb,hkg⟩
   ·have HWR:=Lib.hid hwr
    have HNB:=Lib.hid hnb
    have HKG:=Lib.hid hkg
    clear hwr hnb hkg
    obtain ⟨f0,ff0,fhz⟩:=HWR.out.pw.oneG
    go_wp2_with fail
    refine (HIH.out wr _ xs HWR.out (by have:=HL1.out;omega)).mono ?_
    rintro e w5 ⟨v5,rfl,hk5,hw5⟩
    have HNB5:=Lib.hid (hk5.blk HNB.out HN1.out.2.2.2.1 HN1.out.2.2.2.1 hvn)
    have hvn5:v5.ownBlock≠some nb:=fun e=>by
     rcases hk5.move nb e with h|h
     ·exact hvn h
     ·have:=HNB.out.lt;omega
    have HVN5:=Lib.hid hvn5
    rw [←HXS1.out] at hw5
    rw [←HIX1.out]
    have HW5:=Lib.hid hw5
    have HK5:=Lib.hid hk5
    clear hw5 hk5 hvn5 f0 ff0 fhz y0
    have z1:=HNB5.out.cell 1
    have zf1:=HNB5.out.frozen 1
    go_wp2_with fail
    go_roundw
    case rel=>
     exact .inr ⟨by go_num,v5,HVN5.out,HW5.out.far HN1.out.1 HN1.out.2.1 HN1.out.2.2.1 HN1.out.2.2.2.1 HVN5.out 1 (.int .i64 ix),Blk.set_ HNB5.out 1 (.int .i64 ix),(HKG.out.trans HK5.out).setNew HN1.out.2.2.2.2 1 (.int .i64 ix)⟩
    case measure=>simp [intOf]
   ·have HWR:=Lib.hid hwr
    have HNB:=Lib.hid hnb
    have HKG:=Lib.hid hkg
    clear hwr hnb hkg
    obtain ⟨A2,c2,rfl⟩:=HWR.out.row.shape
    obtain ⟨m2,hm2⟩:∃m2,m2=xs1.length:=⟨_,rfl⟩
    have HLN:=Lib.hid hm2
    have hl1':m2+1≤4096:=by have h1:=HL1.out;omega
    rw [←hm2] at HWR HKG
    clear hm2 hsz
    have hm4:m2≤4096:=by omega
    have HNX:=Lib.hid (fun w6 g6 c6 o hgr hat hn=>WrAt.next (w':=w6) (g6:=g6) (c6:=c6) (o:=o) (nd:=⟨kk,ix,0,n,[]⟩) HWR.out hgr hat hn)
    have hwz:=HWR.out.ext.size
    have HRA:Hid ((wr.alloc (.cells #[.int .i64 kk,.int .i64 ix,.int .i64 0,.int .i64 n,.string s] 50)).ownsRow w0.heap.size 50 5 (.slice A2 m2 c2) m2 (ndsC xs1)):=Lib.hid (ownsRow_below (by have h:=HWR.out.row;unfold OwnNd at h;rw [←HLN.out] at h;exact h) (fun k _ hk=>Below.heap_alloc _ _ k hk))
    have HNW:=Lib.hid (newsL wr 50 [.int .i64 kk,.int .i64 ix,.int .i64 0,.int .i64 n,.string s])
    have HBB1:Hid (m2+1≤maxLen):=Lib.hid (by unfold maxLen;omega)
    have HBB2:Hid ((m2+1)*48≤140737488355328):=Lib.hid (by omega)
    have HBB3:Hid (w0.heap.size≤(wr.alloc (.cells #[.int .i64 kk,.int .i64 ix,.int .i64 0,.int .i64 n,.string s] 50)).heap.size):=Lib.hid (by simp;omega)
    obtain ⟨q0,q1,q2,q3,q4⟩:=HNB.out.five
    obtain ⟨o0,of0,ohz⟩:=HWR.out.po.oneG
    have hw1:IntKind.i64.wrap ((m2:Int)+1-1)=(m2:Int):=by rw [IntKind.wrap_i64];omega
    have hw2:IntKind.i64.wrap (((m2+1:Nat):Int)-1)=(m2:Int):=by rw [IntKind.wrap_i64];omega
    go_wp2_with (at_builtin;go_must (refine wpList_append_lies _ rfl _ _ 25 rfl w0.heap.size 50 i0 _ 5 48 Tryz.underlying25 hif hz0 hz1 hz2 rfl (by decide) (.slice A2 m2 c2) m2 (ndsC xs1) rfl HRA.out ⟨wr.heap.size,0,none⟩ 1 1 [.int .i64 kk,.int .i64 ix,.int .i64 0,.int .i64 n,.string s] rfl rfl HNW.out (by simp [Value.oneCell']) (by decide) HBB1.out HBB2.out HBB3.out _ rfl ?_;intro g6 c6 w6 hown6 hgr6 hat6 hlt6;have HO6:Hid (OwnNd w0.heap.size w6 (.slice (some ⟨g6,0,none⟩) (xs1.length+1) c6) (xs1++[⟨kk,ix,0,n,[]⟩])):=Lib.hid (by unfold OwnNd;rw [ndsC_append,ndsC_one,HNC.out,List.length_append,List.length_singleton,←HLN.out];exact hown6);have HFF:=Lib.hid (HNX.out w6 g6 c6 _ hgr6 hat6 HO6.out);clear hown6 hgr6 hat6 hlt6;rw [←HLN.out] at HFF;obtain ⟨o1,of1,ohz1⟩:=HFF.out.2.2.oneG;obtain ⟨u0,uf0,uhz⟩:=HFF.out.1.po.oneG))
    go_ret
    have e:=HLN.out
    subst e
    refine ⟨_,?_,HKG.out.trans HFF.out.2.1,?_⟩
    ·have hv:xs.length+(x.size+1)-1=xs1.length:=by have h1:=HL1.out;omega
     show _=Ending.returned (.int .i64 ((xs.length+(x.size+1)-1:Nat):Int))
     rw [hv]
     rfl
    ·have h:=HFF.out.1
     rw [flat,hkk,←List.append_assoc,←HXS1.out,←HIX1.out]
     exact h
 |bin k x y ihx ihy=>
  intro i w v xs hgd hrep hw hlen
  obtain ⟨j,q,hrj,hrq,hx⟩:=hrep
  have HIX:=Lib.hid (fun W v xs h hl=>ihx j W v xs hgd.2.1 hrj h hl)
  have HIY:=Lib.hid (fun W v xs h hl=>ihy q W v xs hgd.2.2 hrq h hl)
  have hi:i<ns.length:=(List.getElem?_eq_some_iff.1 hx).1
  have hok:=hg.ok.2 i _ hx
  have hfew:=hg.few
  have HGO:=Lib.hid (fun W=>gops_any W ⟨(k:Int),(j:Int),(q:Int),0,[]⟩ hok)
  have hag:argsG ⟨(k:Int),(j:Int),(q:Int),0,[]⟩=[j,q]:=argsG_bin hgd.1
  rw [hag] at HGO
  unfold GopsPost at HGO
  obtain ⟨i0,hif,hz0,hz1,hz2⟩:=info_parts info_node
  obtain ⟨gb,o,hA,hgw,hc⟩:∃gb o,(∃c,nv= .slice (some ⟨gb,o,none⟩) ns.length c)∧gb<w0.heap.size∧NdAt w0 gb (o+i*5) ⟨(k:Int),(j:Int),(q:Int),0,[]⟩:=by
   obtain ⟨A,c,rfl,h1⟩:=hg.row.read
   obtain ⟨gb,o,rfl,h2,h3⟩:=h1 (by omega)
   have h4:=h3 i hi
   rw [(List.getElem?_eq_some_iff.1 hx).2] at h4
   exact ⟨gb,o,⟨c,rfl⟩,h2,h4⟩
  obtain ⟨cg,hnv⟩:=hA
  obtain ⟨p0,p1,p2,p3,p4⟩:=hc
  rw [←hw.ext.cell hgw] at p0 p1 p2 p3 p4
  obtain ⟨k0,k1,f0,f1,hgz⟩:=(hg.keep hw.ext).blk.twoG
  rw [hnv] at k0
  obtain ⟨g0,gf0,ghz⟩:=hw.pg.oneG
  have HW:=Lib.hid hw
  have hwz:=hw.ext.size
  have hbo:=hw.po.lt
  have hi0:(0:Int)≤(i:Int):=by omega
  have hin:(i:Int)<(ns.length:Int):=by omega
  have hvn:v.ownBlock≠some w.heap.size:=fun e=>by have:=ownsRow_ltG hw.row e;omega
  obtain ⟨A1,c1,rfl⟩:=hw.row.shape
  simp only [ndV] at HGO
  simp only at p0 p1 p2 p3 p4
  generalize hkk:(k:Int)=kk at *
  obtain ⟨s,hs⟩:∃s:ByteArray,s=⟨([]:List UInt8).toArray⟩:=⟨_,rfl⟩
  have HNC:Hid (∀za zb:Int,ndC ⟨kk,za,zb,0,[]⟩=[.int .i64 kk,.int .i64 za,.int .i64 zb,.int .i64 0,.string s]):=Lib.hid (fun za zb=>by rw [hs];rfl)
  have hst:str []= .string s:=by rw [hs];rfl
  rw [hst] at p4 HGO
  clear hs hst hok hx hi hw
  have HNB3:=Lib.hid (Blk.new w 50 #[.int .i64 kk,.int .i64 (j:Int),.int .i64 (q:Int),.int .i64 0,.string s])
  have HX3:=Lib.hid ((Ext.refl w).alloc (.cells #[.int .i64 kk,.int .i64 (j:Int),.int .i64 (q:Int),.int .i64 0,.string s] 50))
  obtain ⟨nb,hnb⟩:∃nb,nb=w.heap.size:=⟨_,rfl⟩
  obtain ⟨w3,hw3⟩:∃w3,w3=w.alloc (.cells #[.int .i64 kk,.int .i64 (j:Int),.int .i64 (q:Int),.int .i64 0,.string s] 50):=⟨_,rfl⟩
  rw [←hw3,←hnb] at HNB3
  rw [←hw3] at HX3
  rw [←hnb] at hvn
  go_enter Tryz.func48,Tryz.ntmps48
  go_upto_region 2 with fail
  rw [←hw3,←hnb]
  have HNBS:Hid (nb=w.heap.size):=Lib.hid hnb
  have HN1:Hid (w0.heap.size≤nb∧nb≠bg∧nb≠bw∧nb≠bo∧w.heap.size≤nb):=Lib.hid (by have h1:=HW.out.pg.lt;have h2:=HW.out.pw.lt;exact ⟨by omega,by omega,by omega,by omega,by omega⟩)
  clear hw3 hnb p0 p1 p2 p3 p4 k0 k1 f0 f1 g0 gf0
  obtain ⟨q0,q1,q2,q3,q4⟩:=HNB3.out.five
  go_wp2_with fail
  refine (HGO.out w3).mono ?_
  rintro e w4 ⟨A3,c3,rfl,hx4,hc3⟩
  have HW4:=Lib.hid (HW.out.keep (HX3.out.trans hx4))
  have HNB4:=Lib.hid (HNB3.out.ext hx4)
  have HK4:Hid (KG bo bo (.slice A1 xs.length c1) (.slice A1 xs.length c1) w w4):=Lib.hid (KG.of_ext (HX3.out.trans hx4))
  have hs34:=HX3.out.size
  clear q0 q1 q2 q3 q4 HGO hx4
  have hz:([j,q]:List Nat).length=2:=rfl
  rw [hz] at hc3 ⊢
  clear hz
  obtain ⟨b3,rfl,hb3a,hb3b,hcell⟩:=hc3 (by decide)
  clear hc3
  have y0:w4.cell? ⟨b3,0,none⟩=some (.int .i64 (j:Int)):=hcell 0 (by decide)
  have y1:w4.cell? ⟨b3,1,none⟩=some (.int .i64 (q:Int)):=hcell 1 (by decide)
  have hs3:=HNB3.out.lt
  have HB3:Hid (b3≠bo∧(Value.slice A1 xs.length c1).ownBlock≠some b3∧b3≠nb):=Lib.hid ⟨by have:=HN1.out;omega,fun e=>by have:=ownsRow_ltG HW.out.row e;omega,by omega⟩
  clear hcell hb3a hb3b hs3
  have hsz:xs.length+(x.size+y.size+1)≤4096:=hlen
  clear hlen
  obtain ⟨xs1,hxs1⟩:∃xs1,xs1=xs++flat xs.length x:=⟨_,rfl⟩
  have hl1:xs1.length=xs.length+x.size:=by rw [hxs1,List.length_append,flat_len]
  have HXS1:=Lib.hid hxs1
  have HL1:=Lib.hid hl1
  obtain ⟨ix,hix⟩:∃ix:Int,ix=((xs.length+x.size-1:Nat):Int):=⟨_,rfl⟩
  have HIX1:=Lib.hid hix
  clear hxs1 hix hl1
  obtain ⟨xs2,hxs2⟩:∃xs2,xs2=xs1++flat xs1.length y:=⟨_,rfl⟩
  have hl2:xs2.length=xs1.length+y.size:=by rw [hxs2,List.length_append,flat_len]
  have HXS2:=Lib.hid hxs2
  have HL2:=Lib.hid hl2
  obtain ⟨iy,hiy⟩:∃iy:Int,iy=((xs1.length+y.size-1:Nat):Int):=⟨_,rfl⟩
  have HIY1:=Lib.hid hiy
  clear hxs2 hiy hl2
  have hw1':IntKind.i64.wrap ((0:Int)+1)=1:=by decide
  have hw2':IntKind.i64.wrap ((1:Int)+1)=2:=by decide
  go_wp2_with fail
  go_loopw [26] (fun s26 wr=>(s26= .int .i64 0∧WrAt w0 g bg bw bo wr (.slice A1 xs.length c1) xs∧Blk wr nb 50 #[.int .i64 kk,.int .i64 (j:Int),.int .i64 (q:Int),.int .i64 0,.string s]∧KG bo bo (.slice A1 xs.length c1) (.slice A1 xs.length c1) w wr∧wr.cell? ⟨b3,0,none⟩=some (.int .i64 (j:Int))∧wr.cell? ⟨b3,1,none⟩=some (.int .i64 (q:Int)))∨(s26= .int .i64 1∧∃v1,v1.ownBlock≠some nb∧WrAt w0 g bg bw bo wr v1 xs1∧Blk wr nb 50 #[.int .i64 kk,.int .i64 ix,.int .i64 (q:Int),.int .i64 0,.string s]∧KG bo bo (.slice A1 xs.length c1) v1 w wr∧wr.cell? ⟨b3,1,none⟩=some (.int .i64 (q:Int)))∨(s26= .int .i64 2∧∃v2,WrAt w0 g bg bw bo wr v2 xs2∧Blk wr nb 50 #[.int .i64 kk,.int .i64 ix,.int .i64 iy,.int .i64 0,.string s]∧KG bo bo (.slice A1 xs.length c1) v2 w wr)) (fun s26 _=>2-(intOf s26).toNat)
  case atStart=>exact .inl ⟨rfl,HW4.out,HNB4.out,HK4.out,y0,y1⟩
  case round=>
   clear HW4 HNB4 HK4 y0 y1
   rcases hrel with ⟨rfl,hwr,hnb,hkg,y0,y1⟩|⟨rfl,v1,hvn1,hwr,hnb,hkg,y1⟩|⟨rfl,v2,hwr,hnb,hkg⟩
   ·have HWR:=Lib.hid hwr
    have HNB:=Lib.hid hnb
    have HKG:=Lib.hid hkg
    clear hwr hnb hkg
    obtain ⟨f0,ff0,fhz⟩:=HWR.out.pw.oneG
    go_wp2_with fail
    refine (HIX.out wr _ xs HWR.out (by have:=HL1.out;omega)).mono ?_
    rintro e w5 ⟨v5,rfl,hk5,hw5⟩
    have HNB5:=Lib.hid (hk5.blk HNB.out HN1.out.2.2.2.1 HN1.out.2.2.2.1 hvn)
    have hvn5:v5.ownBlock≠some nb:=fun e=>by
     rcases hk5.move nb e with h|h
     ·exact hvn h
     ·have:=HNB.out.lt;omega
    have HVN5:=Lib.hid hvn5
    have HY1:Hid (w5.cell? ⟨b3,1,none⟩=some (.int .i64 (q:Int))):=Lib.hid ((World.cell?_of_block (a:=⟨b3,1,none⟩) (hk5.block b3 (World.block_lt_of_cell? wr _ y1) HB3.out.1 HB3.out.1 HB3.out.2.1)).trans y1)
    rw [←HXS1.out] at hw5
    rw [←HIX1.out]
    have HW5:=Lib.hid hw5
    have HK5:=Lib.hid hk5
    clear hw5 hk5 hvn5 f0 ff0 fhz y0 y1
    have z1:=HNB5.out.cell 1
    have zf1:=HNB5.out.frozen 1
    go_wp2_with fail
    go_roundw
    case rel=>
     exact .inr (.inl ⟨by go_num,v5,HVN5.out,HW5.out.far HN1.out.1 HN1.out.2.1 HN1.out.2.2.1 HN1.out.2.2.2.1 HVN5.out 1 (.int .i64 ix),Blk.set_ HNB5.out 1 (.int .i64 ix),(HKG.out.trans HK5.out).setNew HN1.out.2.2.2.2 1 (.int .i64 ix),(World.cell?_of_block (a:=⟨b3,1,none⟩) (Below.heap_setCell _ _ _ b3 HB3.out.2.2)).trans HY1.out⟩)
    case measure=>simp [intOf]
   ·have HWR:=Lib.hid hwr
    have HNB:=Lib.hid hnb
    have HKG:=Lib.hid hkg
    clear hwr hnb hkg
    obtain ⟨f0,ff0,fhz⟩:=HWR.out.pw.oneG
    go_wp2_with fail
    refine (HIY.out wr _ xs1 HWR.out (by have:=HL1.out;omega)).mono ?_
    rintro e w5 ⟨v5,rfl,hk5,hw5⟩
    have HNB5:=Lib.hid (hk5.blk HNB.out HN1.out.2.2.2.1 HN1.out.2.2.2.1 hvn1)
    have hvn5:v5.ownBlock≠some nb:=fun e=>by
     rcases hk5.move nb e with h|h
     ·exact hvn1 h
     ·have:=HNB.out.lt;omega
    have HVN5:=Lib.hid hvn5
    rw [←HXS2.out] at hw5
    rw [←HIY1.out]
    have HW5:=Lib.hid hw5
    have HK5:=Lib.hid hk5
    clear hw5 hk5 hvn5 f0 ff0 fhz y1
    have z1:=HNB5.out.cell 2
    have zf1:=HNB5.out.frozen 2
    go_wp2_with fail
    go_roundw
    case rel=>
     exact .inr (.inr ⟨by go_num,v5,HW5.out.far HN1.out.1 HN1.out.2.1 HN1.out.2.2.1 HN1.out.2.2.2.1 HVN5.out 2 (.int .i64 iy),Blk.set_ HNB5.out 2 (.int .i64 iy),(HKG.out.trans HK5.out).setNew HN1.out.2.2.2.2 2 (.int .i64 iy)⟩)
    case measure=>simp [intOf]
   ·have HWR:=Lib.hid hwr
    have HNB:=Lib.hid hnb
    have HKG:=Lib.hid hkg
    clear hwr hnb hkg
    obtain ⟨A2,c2,rfl⟩:=HWR.out.row.shape
    obtain ⟨m2,hm2⟩:∃m2,m2=xs2.length:=⟨_,rfl⟩
    have HLN:=Lib.hid hm2
    have hl1':m2+1≤4096:=by have h1:=HL1.out;have h2:=HL2.out;omega
    rw [←hm2] at HWR HKG
    clear hm2 hsz
    have hm4:m2≤4096:=by omega
    have HNX:=Lib.hid (fun w6 g6 c6 o hgr hat hn=>WrAt.next (w':=w6) (g6:=g6) (c6:=c6) (o:=o) (nd:=⟨kk,ix,iy,0,[]⟩) HWR.out hgr hat hn)
    have hwz:=HWR.out.ext.size
    have HRA:Hid ((wr.alloc (.cells #[.int .i64 kk,.int .i64 ix,.int .i64 iy,.int .i64 0,.string s] 50)).ownsRow w0.heap.size 50 5 (.slice A2 m2 c2) m2 (ndsC xs2)):=Lib.hid (ownsRow_below (by have h:=HWR.out.row;unfold OwnNd at h;rw [←HLN.out] at h;exact h) (fun k _ hk=>Below.heap_alloc _ _ k hk))
    have HNW:=Lib.hid (newsL wr 50 [.int .i64 kk,.int .i64 ix,.int .i64 iy,.int .i64 0,.string s])
    have HBB1:Hid (m2+1≤maxLen):=Lib.hid (by unfold maxLen;omega)
    have HBB2:Hid ((m2+1)*48≤140737488355328):=Lib.hid (by omega)
    have HBB3:Hid (w0.heap.size≤(wr.alloc (.cells #[.int .i64 kk,.int .i64 ix,.int .i64 iy,.int .i64 0,.string s] 50)).heap.size):=Lib.hid (by simp;omega)
    obtain ⟨q0,q1,q2,q3,q4⟩:=HNB.out.five
    obtain ⟨o0,of0,ohz⟩:=HWR.out.po.oneG
    have hw1:IntKind.i64.wrap ((m2:Int)+1-1)=(m2:Int):=by rw [IntKind.wrap_i64];omega
    have hw2:IntKind.i64.wrap (((m2+1:Nat):Int)-1)=(m2:Int):=by rw [IntKind.wrap_i64];omega
    go_wp2_with (at_builtin;go_must (refine wpList_append_lies _ rfl _ _ 25 rfl w0.heap.size 50 i0 _ 5 48 Tryz.underlying25 hif hz0 hz1 hz2 rfl (by decide) (.slice A2 m2 c2) m2 (ndsC xs2) rfl HRA.out ⟨wr.heap.size,0,none⟩ 1 1 [.int .i64 kk,.int .i64 ix,.int .i64 iy,.int .i64 0,.string s] rfl rfl HNW.out (by simp [Value.oneCell']) (by decide) HBB1.out HBB2.out HBB3.out _ rfl ?_;intro g6 c6 w6 hown6 hgr6 hat6 hlt6;have HO6:Hid (OwnNd w0.heap.size w6 (.slice (some ⟨g6,0,none⟩) (xs2.length+1) c6) (xs2++[⟨kk,ix,iy,0,[]⟩])):=Lib.hid (by unfold OwnNd;rw [ndsC_append,ndsC_one,HNC.out,List.length_append,List.length_singleton,←HLN.out];exact hown6);have HFF:=Lib.hid (HNX.out w6 g6 c6 _ hgr6 hat6 HO6.out);clear hown6 hgr6 hat6 hlt6;rw [←HLN.out] at HFF;obtain ⟨o1,of1,ohz1⟩:=HFF.out.2.2.oneG;obtain ⟨u0,uf0,uhz⟩:=HFF.out.1.po.oneG))
    go_ret
    have e:=HLN.out
    subst e
    refine ⟨_,?_,HKG.out.trans HFF.out.2.1,?_⟩
    ·have hv:xs.length+(x.size+y.size+1)-1=xs2.length:=by have h1:=HL1.out;have h2:=HL2.out;omega
     show _=Ending.returned (.int .i64 ((xs.length+(x.size+y.size+1)-1:Nat):Int))
     rw [hv]
     rfl
    ·have h:=HFF.out.1
     rw [flat,hkk,←HIX1.out,←HL1.out,←List.append_assoc,←HXS1.out,←List.append_assoc,←HXS2.out,←HIY1.out]
     exact h
end Big
end Go.Proofs.YtaccjdbbkmhanaaGreatDoor
