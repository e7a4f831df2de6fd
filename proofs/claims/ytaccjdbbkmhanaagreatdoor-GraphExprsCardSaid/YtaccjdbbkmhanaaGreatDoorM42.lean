import Derived.Test.YtaccjdbbkmhanaaGreatDoorM33
import Derived.Test.YtaccjdbbkmhanaaGreatDoorM40
import Derived.Test.YtaccjdbbkmhanaaGreatDoorM41
import Derived.Test.YtaccjdbbkmhanaaGreatDoorM7
import Derived.Test.YtaccjdbbkmhanaaGreatDoorRows
import Derived.Test.YtaccjdbbkmhanaaGreatDoorM4
import Derived.ProofKit
import Derived.LaidMore
import Derived.OpenShut
import Derived.Stop.Joined
import Derived.Lib.LaidTab
import Derived.Carry
import Derived.Handed
import Derived.HandedShaped
import Derived.Deep.Strs
import Derived.ChangeMaps5
import Derived.Lib.SmallJoins
namespace Go.Proofs.YtaccjdbbkmhanaaGreatDoor
namespace Big
open Go.RowKit
theorem blk_new2 (w:World) (o:Obj) (cs:Array Value):Blk ((w.alloc o).alloc (.cells cs 3)) (w.heap.size+1) 3 cs:=by
 have h:=Blk.new (w.alloc o) 3 cs
 rw [World.size_alloc] at h
 exact h
theorem dbl_ok {n k:Nat} (h:k<n) (r:Int) (hr:r=0∨r=1∨r=2):NdOk n ⟨if r=0 then 6 else if r=1 then 8 else 5,(k:Int),if r=2 then 0 else (k:Int),0,[]⟩:=by
 rcases hr with rfl|rfl|rfl
 ·exact .inr (.inr ⟨6,k,k,rfl,by omega,h,h⟩)
 ·exact .inr (.inr ⟨8,k,k,rfl,by omega,h,h⟩)
 ·exact .inr (.inl ⟨5,0,k,rfl,⟨.inl rfl,fun _=>rfl,by omega,by omega⟩,h⟩)
set_option maxHeartbeats 16000000 in
set_option maxRecDepth 100000 in
theorem graphExprs_any (w:World) (v:Value) (l:List Int) (dbl id:Int) (hd1: -9223372036854775808≤dbl∧dbl≤9223372036854775807) (hi1: -9223372036854775808≤id∧id≤9223372036854775807) (h:ArrI w v l) (hm:MaxV w):
  Calls Tryz.prog 5 #[v,.int .i64 dbl,.int .i64 id] w fun e w'=>e= .returned (.bool true)∧Ext w w':=by
 have HAW:=Lib.hid (awake21_any w hm)
 have HM:=Lib.hid hm
 have HL:=Lib.hid h
 have HLT:=Lib.hid (fun W hx=>light_any W v l (HL.out.ext hx))
 obtain ⟨A0,c0,rfl,hh0,hh1,hh2⟩:=h.open
 clear h hm hh0 hh1 hh2
 by_cases hlt:120<l.length
 ·have hd:decide (l.length≤120)=false:=decide_eq_false (by omega)
  rw [hd] at HLT
  clear HL hlt hd
  go_enter Tryz.func5,Tryz.ntmps5
  go_wp2_with fail
  refine HAW.out.mono ?_
  rintro e w1 ⟨rfl,hx1⟩
  have HX1:=Lib.hid hx1
  clear hx1
  go_wp2_with fail
  refine (HLT.out _ HX1.out).mono ?_
  rintro e w2 ⟨rfl,rfl⟩
  go_wp2_with fail
  go_ret
  exact ⟨rfl,HX1.out⟩
 have hd:decide (l.length≤120)=true:=decide_eq_true (by omega)
 rw [hd] at HLT
 have hll:l.length≤120:=by omega
 have HMD:=Lib.hid (fun W (v:Int) (n:Int) h1 h2 h3 h4=>mod_any W v n h1 h2 h3 h4)
 have HM3:=Lib.hid (fun W=>mod_any W id 3 hi1.1 hi1.2 (by decide) (by decide))
 have hr3:id % 3=0∨id % 3=1∨id % 3=2:=by omega
 obtain ⟨r3,hr3e⟩:∃r3,r3=id % 3:=⟨_,rfl⟩
 rw [←hr3e] at HM3 hr3
 have HM45:=Lib.hid (fun W=>mod_any W dbl 45 hd1.1 hd1.2 (by decide) (by decide))
 have hr45:0≤dbl % 45∧dbl % 45<45:=by omega
 obtain ⟨r45,hr45e⟩:∃r45:Nat,(r45:Int)=dbl % 45:=⟨(dbl % 45).toNat,by omega⟩
 rw [←hr45e] at HM45 hr45
 clear hlt hd hr3e hr45e
 go_enter Tryz.func5,Tryz.ntmps5
 go_wp2_with fail
 refine HAW.out.mono ?_
 rintro e w1 ⟨rfl,hx1⟩
 have HX1:=Lib.hid hx1
 clear hx1
 go_wp2_with fail
 refine (HLT.out _ HX1.out).mono ?_
 rintro e w2 ⟨rfl,rfl⟩
 go_wp2_with fail
 refine (mgraph_any w1 _ l (HL.out.ext HX1.out) (by omega)).mono ?_
 rintro e w2 ⟨gr,ns,rv,rfl,hgr,hns,hx2⟩
 have HGR:=Lib.hid hgr
 have HX2:=Lib.hid (HX1.out.trans hx2)
 have hb0:w.heap.size≤w1.heap.size+1:=by have:=HX1.out.size;omega
 obtain ⟨AR,cR,rfl⟩:=hgr.row.shape
 obtain ⟨k0,f0,hgz0⟩:=hgr.blk.oneG
 clear hgr hx2 HAW HLT HL hll
 by_cases hp:0<ns.length
 ·have hd0:decide ((ns.length:Int)>0)=true:=decide_eq_true (by omega)
  have hd0':decide ((0:Int)<(ns.length:Int))=true:=decide_eq_true (by omega)
  have hd0'':decide (0<ns.length)=true:=decide_eq_true hp
  have HMN:=Lib.hid (fun W=>mod_any W id (ns.length:Int) hi1.1 hi1.2 (by omega) (by omega))
  have h1:=Int.emod_nonneg id (show (ns.length:Int)≠0 by omega)
  have h2:=Int.emod_lt_of_pos id (show 0<(ns.length:Int) by omega)
  obtain ⟨k,hk⟩:∃k:Nat,(k:Int)=id % (ns.length:Int):=⟨(id % (ns.length:Int)).toNat,by omega⟩
  rw [←hk] at HMN h1 h2
  clear hk
  go_wp2_with fail
  refine (HMN.out _).mono ?_
  rintro e w3 ⟨rfl,rfl⟩
  have HST:Hid (∃(k':Nat) (ms:List Nd) (rw:Value),(k:Int)=(k':Int)∧GrR (w1.heap.size+1) gr w2 ms rw∧k'<ms.length∧ms.length≤76∧Ext w w2):=Lib.hid ⟨k,ns,_,rfl,HGR.out,by omega,by omega,HX2.out⟩
  clear k0 f0 hgz0 HGR HX2 hns h1 h2 hp hd0 hd0' hd0'' HMN
  go_wp2_with fail
  refine (HM45.out _).mono ?_
  rintro e w3 ⟨rfl,rfl⟩
  go_wp2_with fail
  go_loopw [8,43] (fun s8 s43 wr=>∃i:Nat,i≤r45∧s43= .int .i64 (i:Int)∧∃(k:Nat) (ms:List Nd) (rw:Value),s8= .int .i64 (k:Int)∧GrR (w1.heap.size+1) gr wr ms rw∧k<ms.length∧ms.length≤76+i∧Ext w wr) (fun _ s43 _=>r45-(intOf s43).toNat)
  case atStart=>
   obtain ⟨k,ms,rw,e,hg,hk,hms,hx⟩:=HST.out
   exact ⟨0,Nat.zero_le _,rfl,k,ms,rw,by rw [e],hg,hk,by omega,hx⟩
  case round=>
   clear HST
   obtain ⟨i,hi,rfl,k,ms,rw,rfl,hg,hk,hms,hx⟩:=hrel
   have HG:=Lib.hid hg
   have HX:=Lib.hid hx
   clear hg hx
   obtain ⟨AW,cW,rfl⟩:=HG.out.row.shape
   by_cases hlt:i<r45
   ·have hwi:IntKind.i64.wrap ((i:Int)+1)=(i:Int)+1:=IntWalk.i64_in _ (by omega)
    have hii:(i:Int)<(r45:Int):=by omega
    have HPU:=Lib.hid (fun W (hx:Ext wr W)=>rput_any (w1.heap.size+1) gr W ms _ (HG.out.keep hx) _ (dbl_ok hk r3 hr3) (by omega))
    unfold RPutPost at HPU
    obtain ⟨kk,hkk⟩:∃kk:Int,kk=(if r3=0 then 6 else if r3=1 then 8 else 5):=⟨_,rfl⟩
    obtain ⟨bb,hbb⟩:∃bb:Int,bb=(if r3=2 then 0 else (k:Int)):=⟨_,rfl⟩
    rw [←hkk,←hbb] at HPU
    have hE:ndV ⟨kk,(k:Int),bb,0,[]⟩= .agg #[.int .i64 kk,.int .i64 (k:Int),.int .i64 bb,.int .i64 0,.string ⟨#[]⟩]:=rfl
    rw [hE] at HPU
    have HP1:=Lib.hid (putG_lt ms ⟨kk,(k:Int),bb,0,[]⟩)
    have HP2:=Lib.hid (putG_len ms ⟨kk,(k:Int),bb,0,[]⟩)
    generalize putG ms ⟨kk,(k:Int),bb,0,[]⟩=pp at HPU HP1 HP2
    obtain ⟨pk,pms⟩:=pp
    have HRA:Hid (∀W b,Blk W b 3 #[.int .i64 6,.int .i64 8,.int .i64 5]→W.cell? ⟨b,r3.toNat,none⟩=some (.int .i64 kk)):=Lib.hid (fun W b hb=>by subst hkk;rcases hr3 with rfl|rfl|rfl<;>exact hb.cell _)
    have HRB:Hid (∀W b,Blk W b 3 #[.int .i64 (k:Int),.int .i64 (k:Int),.int .i64 0]→W.cell? ⟨b,r3.toNat,none⟩=some (.int .i64 bb)):=Lib.hid (fun W b hb=>by subst hbb;rcases hr3 with rfl|rfl|rfl<;>exact hb.cell _)
    have HKB:Hid (∀j,wr.heap.size≤j→j≠gr∧(Value.slice AW ms.length cW).ownBlock≠some j):=Lib.hid (fun j hj=>⟨by have:=HG.out.lt;omega,fun e=>by have:=ownsRow_ltG HG.out.row e;omega⟩)
    have hq0:0≤r3:=by omega
    have hq1:r3<3:=by omega
    clear hE hk hkk hbb hr3
    go_upto_region 12 with fail
    refine wp_region_held_drew (S:=fun _=>True) (by kernel_rfl) (by exact trivial) (fun hHeld=> ?_)
    refine' wpAnyH_take (i:=0) (oi:=⟨some 46,_,_,_,_,_⟩) (v:=_) rfl (by kernel_rfl) (by kernel_rfl) (by kernel_rfl) (fun _ _ _ h=>h) (Or.inl ⟨by rfl,?_⟩) hHeld ?_
    rotate_left
    ·(intro w' hSw;(try dsimp only at hSw);go_simp;(try with_reducible rfl))
    try simp only [Act.put,List.setIfInBounds_toArray,List.set_cons_zero,List.set_cons_succ]
    refine' wpAnyH_take (i:=2) (oi:=⟨some 48,_,_,_,_,_⟩) (v:=_) rfl (by kernel_rfl) (by kernel_rfl) (by kernel_rfl) (fun _ _ _ h=>h) (Or.inl ⟨by rfl,?_⟩) hHeld ?_
    rotate_left
    ·(intro w' hSw;(try dsimp only at hSw);go_simp;(try with_reducible rfl))
    try simp only [Act.put,List.setIfInBounds_toArray,List.set_cons_zero,List.set_cons_succ]
    refine' wpAnyH_take (i:=6) (oi:=⟨some 52,_,_,_,_,_⟩) (v:=_) rfl (by kernel_rfl) (by kernel_rfl) (by kernel_rfl) (fun _ _ _ h=>h) (Or.inl ⟨by rfl,?_⟩) hHeld ?_
    rotate_left
    ·(intro w' hSw;(try dsimp only at hSw);go_simp;(try with_reducible rfl))
    try simp only [Act.put,List.setIfInBounds_toArray,List.set_cons_zero,List.set_cons_succ]
    refine' wpAnyH_take (i:=7) (oi:=⟨some 53,_,_,_,_,_⟩) (v:=_) rfl (by kernel_rfl) (by kernel_rfl) (by kernel_rfl) (fun _ _ _ h=>h) (Or.inl ⟨by rfl,?_⟩) hHeld ?_
    rotate_left
    ·(intro w' hSw;(try dsimp only at hSw);go_simp;(try with_reducible rfl))
    try simp only [Act.put,List.setIfInBounds_toArray,List.set_cons_zero,List.set_cons_succ]
    refine' wpAnyH_take (i:=8) (oi:=⟨some 54,_,_,_,_,_⟩) (v:=_) rfl (by kernel_rfl) (by kernel_rfl) (by kernel_rfl) (fun _ _ _ h=>h) (Or.inl ⟨by rfl,?_⟩) hHeld ?_
    rotate_left
    ·(intro w' hSw;(try dsimp only at hSw);go_simp;(try with_reducible rfl))
    try simp only [Act.put,List.setIfInBounds_toArray,List.set_cons_zero,List.set_cons_succ]
    refine' wpAnyH_take (i:=10) (oi:=⟨some 56,_,_,_,_,_⟩) (v:=_) rfl (by kernel_rfl) (by kernel_rfl) (by kernel_rfl) (fun _ _ _ h=>h) (Or.inl ⟨by rfl,?_⟩) hHeld ?_
    rotate_left
    ·(intro w' hSw;(try dsimp only at hSw);go_simp;(try with_reducible rfl))
    try simp only [Act.put,List.setIfInBounds_toArray,List.set_cons_zero,List.set_cons_succ]
    refine' qcall_take (i:=3) (oi:=⟨some 49,_,_,_,_,_⟩) (v:= .int .i64 r3) rfl (by kernel_rfl) (by kernel_rfl) (by kernel_rfl) (fun _ _ _ h=>h) ⟨by rfl,fun w' _=>⟨_,_,?_,HM3.out w'⟩⟩ hHeld ?_
    ·(go_simp;(try with_reducible rfl))
    try simp only [Act.put,List.setIfInBounds_toArray,List.set_cons_zero,List.set_cons_succ]
    refine' qcall_take (i:=11) (oi:=⟨some 57,_,_,_,_,_⟩) (v:= .int .i64 r3) rfl (by kernel_rfl) (by kernel_rfl) (by kernel_rfl) (fun _ _ _ h=>h) ⟨by rfl,fun w' _=>⟨_,_,?_,HM3.out w'⟩⟩ hHeld ?_
    ·(go_simp;(try with_reducible rfl))
    try simp only [Act.put,List.setIfInBounds_toArray,List.set_cons_zero,List.set_cons_succ]
    refine wpAnyH_ready (rs:=[1,9]) (by kernel_rfl) (by simp) ?_
    refine AllReadyH.cons (i:=1) rfl (fun K hK=> ?_) (AllReadyH.cons (i:=9) rfl (fun K hK=> ?_) AllReadyH.nil)
    ·go_simp
     try go_wp2_with fail
     refine hK.out _ _ ?_ (fun hHeld=> ?_)
     ·trivial
     clear hK K
     try simp only [Act.put,List.setIfInBounds_toArray,List.set_cons_zero,List.set_cons_succ]
     have hb1:Blk ((wr.alloc (.cells #[.int .i64 6,.int .i64 8,.int .i64 5] 3)).drew) wr.heap.size 3 #[.int .i64 6,.int .i64 8,.int .i64 5]:=(Blk.new _ _ _).drew
     refine held_of (S':=fun w'=>Blk w' wr.heap.size 3 #[.int .i64 6,.int .i64 8,.int .i64 5]) (fun _ _=>trivial) _ _ _ _ ?_
     have hHeld:(fun w'=>Blk w' wr.heap.size 3 #[.int .i64 6,.int .i64 8,.int .i64 5]) ((wr.alloc (.cells #[.int .i64 6,.int .i64 8,.int .i64 5] 3)).drew):=hb1
     refine' wpAnyH_take (i:=4) (oi:=⟨some 50,_,_,_,_,_⟩) (v:=_) rfl (by kernel_rfl) (by kernel_rfl) (by kernel_rfl) (fun _ _ _ h=>h) (Or.inl ⟨by rfl,?_⟩) hHeld ?_
     rotate_left
     ·(intro w' hSw;(try dsimp only at hSw);go_simp;(try with_reducible rfl))
     try simp only [Act.put,List.setIfInBounds_toArray,List.set_cons_zero,List.set_cons_succ]
     refine' wpAnyH_take (i:=5) (oi:=⟨some 51,_,_,_,_,_⟩) (v:=_) rfl (by kernel_rfl) (by kernel_rfl) (by kernel_rfl) (fun _ _ _ h=>h) (Or.inl ⟨by rfl,?_⟩) hHeld ?_
     rotate_left
     ·(intro w' hSw;(try dsimp only at hSw);have hcx:=HRA.out _ _ hSw;go_simp;(try with_reducible rfl))
     try simp only [Act.put,List.setIfInBounds_toArray,List.set_cons_zero,List.set_cons_succ]
     refine wpAnyH_ready (rs:=[9]) (by kernel_rfl) (by simp) ?_
     refine AllReadyH.cons (i:=9) rfl (fun K hK=> ?_) AllReadyH.nil
     go_simp
     try go_wp2_with fail
     refine hK.out _ _ ?_ (fun hHeld=> ?_)
     ·exact Blk.ext (Blk.new wr 3 #[.int .i64 6,.int .i64 8,.int .i64 5]) (Ext.alloc (Ext.refl _) _).drew
     clear hK K
     try simp only [Act.put,List.setIfInBounds_toArray,List.set_cons_zero,List.set_cons_succ]
     have hb2:Blk (((wr.alloc (.cells #[.int .i64 6,.int .i64 8,.int .i64 5] 3)).alloc (.cells #[.int .i64 (k:Int),.int .i64 (k:Int),.int .i64 0] 3)).drew) wr.heap.size 3 #[.int .i64 6,.int .i64 8,.int .i64 5]∧Blk (((wr.alloc (.cells #[.int .i64 6,.int .i64 8,.int .i64 5] 3)).alloc (.cells #[.int .i64 (k:Int),.int .i64 (k:Int),.int .i64 0] 3)).drew) (wr.heap.size+1) 3 #[.int .i64 (k:Int),.int .i64 (k:Int),.int .i64 0]:=⟨Blk.ext (Blk.new wr 3 #[.int .i64 6,.int .i64 8,.int .i64 5]) (Ext.alloc (Ext.refl _) _).drew,(blk_new2 wr _ _).drew⟩
     refine held_of (S':=fun w'=>Blk w' wr.heap.size 3 #[.int .i64 6,.int .i64 8,.int .i64 5]∧Blk w' (wr.heap.size+1) 3 #[.int .i64 (k:Int),.int .i64 (k:Int),.int .i64 0]) (fun _ h=>h.1) _ _ _ _ ?_
     have hHeld:(fun w'=>Blk w' wr.heap.size 3 #[.int .i64 6,.int .i64 8,.int .i64 5]∧Blk w' (wr.heap.size+1) 3 #[.int .i64 (k:Int),.int .i64 (k:Int),.int .i64 0]) (((wr.alloc (.cells #[.int .i64 6,.int .i64 8,.int .i64 5] 3)).alloc (.cells #[.int .i64 (k:Int),.int .i64 (k:Int),.int .i64 0] 3)).drew):=hb2
     clear hb1 hb2
     refine' wpAnyH_take (i:=12) (oi:=⟨some 58,_,_,_,_,_⟩) (v:=_) rfl (by kernel_rfl) (by kernel_rfl) (by kernel_rfl) (fun _ _ _ h=>h) (Or.inl ⟨by rfl,?_⟩) hHeld ?_
     rotate_left
     ·(intro w' hSw;(try dsimp only at hSw);go_simp;(try with_reducible rfl))
     try simp only [Act.put,List.setIfInBounds_toArray,List.set_cons_zero,List.set_cons_succ]
     refine' wpAnyH_take (i:=13) (oi:=⟨some 59,_,_,_,_,_⟩) (v:=_) rfl (by kernel_rfl) (by kernel_rfl) (by kernel_rfl) (fun _ _ _ h=>h) (Or.inl ⟨by rfl,?_⟩) hHeld ?_
     rotate_left
     ·(intro w' hSw;(try dsimp only at hSw);have hcx:=HRB.out _ _ hSw.2;go_simp;(try with_reducible rfl))
     try simp only [Act.put,List.setIfInBounds_toArray,List.set_cons_zero,List.set_cons_succ]
     refine' wpAnyH_take (i:=14) (oi:=⟨some 60,_,_,_,_,_⟩) (v:=_) rfl (by kernel_rfl) (by kernel_rfl) (by kernel_rfl) (fun _ _ _ h=>h) (Or.inl ⟨by rfl,?_⟩) hHeld ?_
     rotate_left
     ·(intro w' hSw;(try dsimp only at hSw);go_simp;(try with_reducible rfl))
     try simp only [Act.put,List.setIfInBounds_toArray,List.set_cons_zero,List.set_cons_succ]
     refine wpAnyH_ready (rs:=[15]) (by kernel_rfl) (by simp) ?_
     refine AllReadyH.cons (i:=15) rfl (fun K hK=> ?_) AllReadyH.nil
     go_simp
     (go_at_call 22;refine (HPU.out _ (Ext.alloc (Ext.alloc (Ext.refl wr) _) _).drew).mono ?_;rintro e w9 ⟨rv9,rfl,hk9,hg9⟩;have HS9:=And.intro (hk9.blk hHeld.1 (HKB.out _ (Nat.le_refl _)).1 (HKB.out _ (Nat.le_refl _)).1 (HKB.out _ (Nat.le_refl _)).2) (hk9.blk hHeld.2 (HKB.out _ (Nat.le_succ _)).1 (HKB.out _ (Nat.le_succ _)).1 (HKB.out _ (Nat.le_succ _)).2);have HG9:=Lib.hid hg9;have HX9:=Lib.hid (Ext.more (HX.out.trans (Ext.alloc (Ext.alloc (Ext.refl wr) _) _).drew) (Below.mono (hk9.belowR (HG.out.keep (Ext.alloc (Ext.alloc (Ext.refl wr) _) _).drew)) hb0));clear hk9 hg9)
     try go_wp2_with fail
     refine hK.out _ _ ?_ (fun hHeld=> ?_)
     ·exact HS9
     clear hK K
     try simp only [Act.put,List.setIfInBounds_toArray,List.set_cons_zero,List.set_cons_succ]
     refine' wpAnyH_take (i:=16) (oi:=⟨some 45,_,_,_,_,_⟩) (v:=_) rfl (by kernel_rfl) (by kernel_rfl) (by kernel_rfl) (fun _ _ _ h=>h) (Or.inl ⟨by rfl,?_⟩) hHeld ?_
     rotate_left
     ·(intro w' hSw;(try dsimp only at hSw);go_simp;(try with_reducible rfl))
     try simp only [Act.put,List.setIfInBounds_toArray,List.set_cons_zero,List.set_cons_succ]
     refine' wpAnyH_take (i:=17) (oi:=⟨some 62,_,_,_,_,_⟩) (v:=_) rfl (by kernel_rfl) (by kernel_rfl) (by kernel_rfl) (fun _ _ _ h=>h) (Or.inl ⟨by rfl,?_⟩) hHeld ?_
     rotate_left
     ·(intro w' hSw;(try dsimp only at hSw);go_simp;(try with_reducible rfl))
     try simp only [Act.put,List.setIfInBounds_toArray,List.set_cons_zero,List.set_cons_succ]
     refine' wpAnyH_take (i:=18) (oi:=⟨some 63,_,_,_,_,_⟩) (v:=_) rfl (by kernel_rfl) (by kernel_rfl) (by kernel_rfl) (fun _ _ _ h=>h) (Or.inl ⟨by rfl,?_⟩) hHeld ?_
     rotate_left
     ·(intro w' hSw;(try dsimp only at hSw);go_simp;(try with_reducible rfl))
     try simp only [Act.put,List.setIfInBounds_toArray,List.set_cons_zero,List.set_cons_succ]
     refine' wpAnyH_take (i:=19) (oi:=⟨some 8,_,_,_,_,_⟩) (v:=_) rfl (by kernel_rfl) (by kernel_rfl) (by kernel_rfl) (fun _ _ _ h=>h) (Or.inl ⟨by rfl,?_⟩) hHeld ?_
     rotate_left
     ·(intro w' hSw;(try dsimp only at hSw);go_simp;(try with_reducible rfl))
     try simp only [Act.put,List.setIfInBounds_toArray,List.set_cons_zero,List.set_cons_succ]
     refine wpAnyH_done (by kernel_rfl) ?_ _
     clear hHeld HS9
     go_wp2_with fail
     go_roundw
     ·exact ⟨i+1,hlt,by go_num,pk,pms,rv9,rfl,HG9.out,HP1.out,by have:=HP2.out;omega,HX9.out⟩
     ·simp only [intOf];omega
    ·go_simp
     try go_wp2_with fail
     refine hK.out _ _ ?_ (fun hHeld=> ?_)
     ·trivial
     clear hK K
     try simp only [Act.put,List.setIfInBounds_toArray,List.set_cons_zero,List.set_cons_succ]
     have hb1:Blk ((wr.alloc (.cells #[.int .i64 (k:Int),.int .i64 (k:Int),.int .i64 0] 3)).drew) wr.heap.size 3 #[.int .i64 (k:Int),.int .i64 (k:Int),.int .i64 0]:=(Blk.new _ _ _).drew
     refine held_of (S':=fun w'=>Blk w' wr.heap.size 3 #[.int .i64 (k:Int),.int .i64 (k:Int),.int .i64 0]) (fun _ _=>trivial) _ _ _ _ ?_
     have hHeld:(fun w'=>Blk w' wr.heap.size 3 #[.int .i64 (k:Int),.int .i64 (k:Int),.int .i64 0]) ((wr.alloc (.cells #[.int .i64 (k:Int),.int .i64 (k:Int),.int .i64 0] 3)).drew):=hb1
     refine' wpAnyH_take (i:=12) (oi:=⟨some 58,_,_,_,_,_⟩) (v:=_) rfl (by kernel_rfl) (by kernel_rfl) (by kernel_rfl) (fun _ _ _ h=>h) (Or.inl ⟨by rfl,?_⟩) hHeld ?_
     rotate_left
     ·(intro w' hSw;(try dsimp only at hSw);go_simp;(try with_reducible rfl))
     try simp only [Act.put,List.setIfInBounds_toArray,List.set_cons_zero,List.set_cons_succ]
     refine' wpAnyH_take (i:=13) (oi:=⟨some 59,_,_,_,_,_⟩) (v:=_) rfl (by kernel_rfl) (by kernel_rfl) (by kernel_rfl) (fun _ _ _ h=>h) (Or.inl ⟨by rfl,?_⟩) hHeld ?_
     rotate_left
     ·(intro w' hSw;(try dsimp only at hSw);have hcx:=HRB.out _ _ hSw;go_simp;(try with_reducible rfl))
     try simp only [Act.put,List.setIfInBounds_toArray,List.set_cons_zero,List.set_cons_succ]
     refine wpAnyH_ready (rs:=[1]) (by kernel_rfl) (by simp) ?_
     refine AllReadyH.cons (i:=1) rfl (fun K hK=> ?_) AllReadyH.nil
     go_simp
     try go_wp2_with fail
     refine hK.out _ _ ?_ (fun hHeld=> ?_)
     ·exact Blk.ext (Blk.new wr 3 #[.int .i64 (k:Int),.int .i64 (k:Int),.int .i64 0]) (Ext.alloc (Ext.refl _) _).drew
     clear hK K
     try simp only [Act.put,List.setIfInBounds_toArray,List.set_cons_zero,List.set_cons_succ]
     have hb2:Blk (((wr.alloc (.cells #[.int .i64 (k:Int),.int .i64 (k:Int),.int .i64 0] 3)).alloc (.cells #[.int .i64 6,.int .i64 8,.int .i64 5] 3)).drew) wr.heap.size 3 #[.int .i64 (k:Int),.int .i64 (k:Int),.int .i64 0]∧Blk (((wr.alloc (.cells #[.int .i64 (k:Int),.int .i64 (k:Int),.int .i64 0] 3)).alloc (.cells #[.int .i64 6,.int .i64 8,.int .i64 5] 3)).drew) (wr.heap.size+1) 3 #[.int .i64 6,.int .i64 8,.int .i64 5]:=⟨Blk.ext (Blk.new wr 3 #[.int .i64 (k:Int),.int .i64 (k:Int),.int .i64 0]) (Ext.alloc (Ext.refl _) _).drew,(blk_new2 wr _ _).drew⟩
     refine held_of (S':=fun w'=>Blk w' wr.heap.size 3 #[.int .i64 (k:Int),.int .i64 (k:Int),.int .i64 0]∧Blk w' (wr.heap.size+1) 3 #[.int .i64 6,.int .i64 8,.int .i64 5]) (fun _ h=>h.1) _ _ _ _ ?_
     have hHeld:(fun w'=>Blk w' wr.heap.size 3 #[.int .i64 (k:Int),.int .i64 (k:Int),.int .i64 0]∧Blk w' (wr.heap.size+1) 3 #[.int .i64 6,.int .i64 8,.int .i64 5]) (((wr.alloc (.cells #[.int .i64 (k:Int),.int .i64 (k:Int),.int .i64 0] 3)).alloc (.cells #[.int .i64 6,.int .i64 8,.int .i64 5] 3)).drew):=hb2
     clear hb1 hb2
     refine' wpAnyH_take (i:=4) (oi:=⟨some 50,_,_,_,_,_⟩) (v:=_) rfl (by kernel_rfl) (by kernel_rfl) (by kernel_rfl) (fun _ _ _ h=>h) (Or.inl ⟨by rfl,?_⟩) hHeld ?_
     rotate_left
     ·(intro w' hSw;(try dsimp only at hSw);go_simp;(try with_reducible rfl))
     try simp only [Act.put,List.setIfInBounds_toArray,List.set_cons_zero,List.set_cons_succ]
     refine' wpAnyH_take (i:=5) (oi:=⟨some 51,_,_,_,_,_⟩) (v:=_) rfl (by kernel_rfl) (by kernel_rfl) (by kernel_rfl) (fun _ _ _ h=>h) (Or.inl ⟨by rfl,?_⟩) hHeld ?_
     rotate_left
     ·(intro w' hSw;(try dsimp only at hSw);have hcx:=HRA.out _ _ hSw.2;go_simp;(try with_reducible rfl))
     try simp only [Act.put,List.setIfInBounds_toArray,List.set_cons_zero,List.set_cons_succ]
     refine' wpAnyH_take (i:=14) (oi:=⟨some 60,_,_,_,_,_⟩) (v:=_) rfl (by kernel_rfl) (by kernel_rfl) (by kernel_rfl) (fun _ _ _ h=>h) (Or.inl ⟨by rfl,?_⟩) hHeld ?_
     rotate_left
     ·(intro w' hSw;(try dsimp only at hSw);go_simp;(try with_reducible rfl))
     try simp only [Act.put,List.setIfInBounds_toArray,List.set_cons_zero,List.set_cons_succ]
     refine wpAnyH_ready (rs:=[15]) (by kernel_rfl) (by simp) ?_
     refine AllReadyH.cons (i:=15) rfl (fun K hK=> ?_) AllReadyH.nil
     go_simp
     (go_at_call 22;refine (HPU.out _ (Ext.alloc (Ext.alloc (Ext.refl wr) _) _).drew).mono ?_;rintro e w9 ⟨rv9,rfl,hk9,hg9⟩;have HS9:=And.intro (hk9.blk hHeld.1 (HKB.out _ (Nat.le_refl _)).1 (HKB.out _ (Nat.le_refl _)).1 (HKB.out _ (Nat.le_refl _)).2) (hk9.blk hHeld.2 (HKB.out _ (Nat.le_succ _)).1 (HKB.out _ (Nat.le_succ _)).1 (HKB.out _ (Nat.le_succ _)).2);have HG9:=Lib.hid hg9;have HX9:=Lib.hid (Ext.more (HX.out.trans (Ext.alloc (Ext.alloc (Ext.refl wr) _) _).drew) (Below.mono (hk9.belowR (HG.out.keep (Ext.alloc (Ext.alloc (Ext.refl wr) _) _).drew)) hb0));clear hk9 hg9)
     try go_wp2_with fail
     refine hK.out _ _ ?_ (fun hHeld=> ?_)
     ·exact HS9
     clear hK K
     try simp only [Act.put,List.setIfInBounds_toArray,List.set_cons_zero,List.set_cons_succ]
     refine' wpAnyH_take (i:=16) (oi:=⟨some 45,_,_,_,_,_⟩) (v:=_) rfl (by kernel_rfl) (by kernel_rfl) (by kernel_rfl) (fun _ _ _ h=>h) (Or.inl ⟨by rfl,?_⟩) hHeld ?_
     rotate_left
     ·(intro w' hSw;(try dsimp only at hSw);go_simp;(try with_reducible rfl))
     try simp only [Act.put,List.setIfInBounds_toArray,List.set_cons_zero,List.set_cons_succ]
     refine' wpAnyH_take (i:=17) (oi:=⟨some 62,_,_,_,_,_⟩) (v:=_) rfl (by kernel_rfl) (by kernel_rfl) (by kernel_rfl) (fun _ _ _ h=>h) (Or.inl ⟨by rfl,?_⟩) hHeld ?_
     rotate_left
     ·(intro w' hSw;(try dsimp only at hSw);go_simp;(try with_reducible rfl))
     try simp only [Act.put,List.setIfInBounds_toArray,List.set_cons_zero,List.set_cons_succ]
     refine' wpAnyH_take (i:=18) (oi:=⟨some 63,_,_,_,_,_⟩) (v:=_) rfl (by kernel_rfl) (by kernel_rfl) (by kernel_rfl) (fun _ _ _ h=>h) (Or.inl ⟨by rfl,?_⟩) hHeld ?_
     rotate_left
     ·(intro w' hSw;(try dsimp only at hSw);go_simp;(try with_reducible rfl))
     try simp only [Act.put,List.setIfInBounds_toArray,List.set_cons_zero,List.set_cons_succ]
     refine' wpAnyH_take (i:=19) (oi:=⟨some 8,_,_,_,_,_⟩) (v:=_) rfl (by kernel_rfl) (by kernel_rfl) (by kernel_rfl) (fun _ _ _ h=>h) (Or.inl ⟨by rfl,?_⟩) hHeld ?_
     rotate_left
     ·(intro w' hSw;(try dsimp only at hSw);go_simp;(try with_reducible rfl))
     try simp only [Act.put,List.setIfInBounds_toArray,List.set_cons_zero,List.set_cons_succ]
     refine wpAnyH_done (by kernel_rfl) ?_ _
     clear hHeld HS9
     go_wp2_with fail
     go_roundw
     ·exact ⟨i+1,hlt,by go_num,pk,pms,rv9,rfl,HG9.out,HP1.out,by have:=HP2.out;omega,HX9.out⟩
     ·simp only [intOf];omega
   ·have hir:decide ((i:Int)<(r45:Int))=false:=decide_eq_false (by omega)
    have hir':¬((i:Int)<(r45:Int)):=by omega
    have HLO:=Lib.hid (gload_any _ wr _ ms HG.out.row HG.out.ok HG.out.few (HM.out.ext HX.out))
    obtain ⟨k0,f0,hgz0⟩:=HG.out.blk.oneG
    have hfew:=HG.out.few
    clear hr3 HM3 HM45
    go_wp2_with fail
    refine HLO.out.mono ?_
    rintro e w3 ⟨g,b,nv,rfl,hg,hx3⟩
    have HGP:=Lib.hid hg
    have HW:=Lib.hid (HG.out.keep hx3)
    have HX3:=Lib.hid (HX.out.trans hx3)
    clear hg hx3 HLO k0 f0 hgz0 HG HX hir hir'
    obtain ⟨k1,f1,hgz1⟩:=HW.out.blk.oneG
    have HMN:=Lib.hid (fun W=>mod_any W id (ms.length:Int) hi1.1 hi1.2 (by omega) (by omega))
    obtain ⟨m,hmm⟩:∃m:Int,m=id % (ms.length:Int):=⟨_,rfl⟩
    rw [←hmm] at HMN
    clear hmm
    go_upto_region 17 with fail
    refine wp_region_held_drew (S:=fun w'=>w'.cell? ⟨gr,0,none⟩=some (.slice AW ms.length cW)) (by kernel_rfl) (by exact k1) (fun hHeld=> ?_)
    refine' wpAnyH_take (i:=0) (oi:=⟨some 80,_,_,_,_,_⟩) (v:=_) rfl (by kernel_rfl) (by kernel_rfl) (by kernel_rfl) (fun _ _ _ h=>h) (Or.inl ⟨by rfl,?_⟩) hHeld ?_
    rotate_left
    ·(intro w' hSw;(try dsimp only at hSw);go_simp;(try with_reducible rfl))
    try simp only [Act.put,List.setIfInBounds_toArray,List.set_cons_zero,List.set_cons_succ]
    refine' wpAnyH_take (i:=1) (oi:=⟨some 81,_,_,_,_,_⟩) (v:=_) rfl (by kernel_rfl) (by kernel_rfl) (by kernel_rfl) (fun _ _ _ h=>h) (Or.inl ⟨by rfl,?_⟩) hHeld ?_
    rotate_left
    ·(intro w' hSw;(try dsimp only at hSw);go_simp;(try with_reducible rfl))
    try simp only [Act.put,List.setIfInBounds_toArray,List.set_cons_zero,List.set_cons_succ]
    refine' wpAnyH_take (i:=2) (oi:=⟨some 82,_,_,_,_,_⟩) (v:=_) rfl (by kernel_rfl) (by kernel_rfl) (by kernel_rfl) (fun _ _ _ h=>h) (Or.inl ⟨by rfl,?_⟩) hHeld ?_
    rotate_left
    ·(intro w' hSw;(try dsimp only at hSw);go_simp;(try with_reducible rfl))
    try simp only [Act.put,List.setIfInBounds_toArray,List.set_cons_zero,List.set_cons_succ]
    refine' wpAnyH_take (i:=3) (oi:=⟨some 83,_,_,_,_,_⟩) (v:=_) rfl (by kernel_rfl) (by kernel_rfl) (by kernel_rfl) (fun _ _ _ h=>h) (Or.inl ⟨by rfl,?_⟩) hHeld ?_
    rotate_left
    ·(intro w' hSw;(try dsimp only at hSw);go_simp;(try with_reducible rfl))
    try simp only [Act.put,List.setIfInBounds_toArray,List.set_cons_zero,List.set_cons_succ]
    refine' wpAnyH_take (i:=4) (oi:=⟨some 84,_,_,_,_,_⟩) (v:=_) rfl (by kernel_rfl) (by kernel_rfl) (by kernel_rfl) (fun _ _ _ h=>h) (Or.inl ⟨by rfl,?_⟩) hHeld ?_
    rotate_left
    ·(intro w' hSw;(try dsimp only at hSw);go_simp;(try with_reducible rfl))
    try simp only [Act.put,List.setIfInBounds_toArray,List.set_cons_zero,List.set_cons_succ]
    refine' wpAnyH_take (i:=5) (oi:=⟨some 85,_,_,_,_,_⟩) (v:=_) rfl (by kernel_rfl) (by kernel_rfl) (by kernel_rfl) (fun _ _ _ h=>h) (Or.inl ⟨by rfl,?_⟩) hHeld ?_
    rotate_left
    ·(intro w' hSw;(try dsimp only at hSw);go_simp;(try with_reducible rfl))
    try simp only [Act.put,List.setIfInBounds_toArray,List.set_cons_zero,List.set_cons_succ]
    refine' wpAnyH_take (i:=6) (oi:=⟨some 86,_,_,_,_,_⟩) (v:=_) rfl (by kernel_rfl) (by kernel_rfl) (by kernel_rfl) (fun _ _ _ h=>h) (Or.inl ⟨by rfl,?_⟩) hHeld ?_
    rotate_left
    ·(intro w' hSw;(try dsimp only at hSw);go_simp;(try with_reducible rfl))
    try simp only [Act.put,List.setIfInBounds_toArray,List.set_cons_zero,List.set_cons_succ]
    refine' wpAnyH_take (i:=7) (oi:=⟨some 87,_,_,_,_,_⟩) (v:=_) rfl (by kernel_rfl) (by kernel_rfl) (by kernel_rfl) (fun _ _ _ h=>h) (Or.inl ⟨by rfl,?_⟩) hHeld ?_
    rotate_left
    ·(intro w' hSw;(try dsimp only at hSw);go_simp;(try with_reducible rfl))
    try simp only [Act.put,List.setIfInBounds_toArray,List.set_cons_zero,List.set_cons_succ]
    refine' wpAnyH_take (i:=8) (oi:=⟨some 88,_,_,_,_,_⟩) (v:=_) rfl (by kernel_rfl) (by kernel_rfl) (by kernel_rfl) (fun _ _ _ h=>h) (Or.inl ⟨by rfl,?_⟩) hHeld ?_
    rotate_left
    ·(intro w' hSw;(try dsimp only at hSw);go_simp;(try with_reducible rfl))
    try simp only [Act.put,List.setIfInBounds_toArray,List.set_cons_zero,List.set_cons_succ]
    refine' wpAnyH_take (i:=9) (oi:=⟨some 89,_,_,_,_,_⟩) (v:=_) rfl (by kernel_rfl) (by kernel_rfl) (by kernel_rfl) (fun _ _ _ h=>h) (Or.inl ⟨by rfl,?_⟩) hHeld ?_
    rotate_left
    ·(intro w' hSw;(try dsimp only at hSw);go_simp;(try with_reducible rfl))
    try simp only [Act.put,List.setIfInBounds_toArray,List.set_cons_zero,List.set_cons_succ]
    refine' wpAnyH_take (i:=10) (oi:=⟨some 90,_,_,_,_,_⟩) (v:=_) rfl (by kernel_rfl) (by kernel_rfl) (by kernel_rfl) (fun _ _ _ h=>h) (Or.inl ⟨by rfl,?_⟩) hHeld ?_
    rotate_left
    ·(intro w' hSw;(try dsimp only at hSw);go_simp;(try with_reducible rfl))
    try simp only [Act.put,List.setIfInBounds_toArray,List.set_cons_zero,List.set_cons_succ]
    refine' wpAnyH_take (i:=11) (oi:=⟨some 91,_,_,_,_,_⟩) (v:=_) rfl (by kernel_rfl) (by kernel_rfl) (by kernel_rfl) (fun _ _ _ h=>h) (Or.inl ⟨by rfl,?_⟩) hHeld ?_
    rotate_left
    ·(intro w' hSw;(try dsimp only at hSw);go_simp;(try with_reducible rfl))
    try simp only [Act.put,List.setIfInBounds_toArray,List.set_cons_zero,List.set_cons_succ]
    refine' wpAnyH_take (i:=12) (oi:=⟨some 92,_,_,_,_,_⟩) (v:=_) rfl (by kernel_rfl) (by kernel_rfl) (by kernel_rfl) (fun _ _ _ h=>h) (Or.inl ⟨by rfl,?_⟩) hHeld ?_
    rotate_left
    ·(intro w' hSw;(try dsimp only at hSw);go_simp;(try with_reducible rfl))
    try simp only [Act.put,List.setIfInBounds_toArray,List.set_cons_zero,List.set_cons_succ]
    refine' qcall_take (i:=13) (oi:=⟨some 93,_,_,_,_,_⟩) (v:= .int .i64 m) rfl (by kernel_rfl) (by kernel_rfl) (by kernel_rfl) (fun _ _ _ h=>h) ⟨by rfl,fun w' _=>⟨_,_,?_,HMN.out w'⟩⟩ hHeld ?_
    ·(go_simp;(try with_reducible rfl))
    try simp only [Act.put,List.setIfInBounds_toArray,List.set_cons_zero,List.set_cons_succ]
    refine' wpAnyH_take (i:=16) (oi:=⟨some 96,_,_,_,_,_⟩) (v:=_) rfl (by kernel_rfl) (by kernel_rfl) (by kernel_rfl) (fun _ _ _ h=>h) (Or.inl ⟨by rfl,?_⟩) hHeld ?_
    rotate_left
    ·(intro w' hSw;(try dsimp only at hSw);go_simp;(try with_reducible rfl))
    try simp only [Act.put,List.setIfInBounds_toArray,List.set_cons_zero,List.set_cons_succ]
    refine wpAnyH_ready (rs:=[14]) (by kernel_rfl) (by simp) ?_
    refine AllReadyH.cons (i:=14) rfl (fun K hK=> ?_) AllReadyH.nil
    go_simp
    try go_wp2_with fail
    refine hK.out _ _ ?_ (fun hHeld=> ?_)
    ·exact (Ext.alloc (Ext.refl w3) _).drew.keep k1
    clear hK K
    try simp only [Act.put,List.setIfInBounds_toArray,List.set_cons_zero,List.set_cons_succ]
    refine' wpAnyH_take (i:=15) (oi:=⟨some 95,_,_,_,_,_⟩) (v:=_) rfl (by kernel_rfl) (by kernel_rfl) (by kernel_rfl) (fun _ _ _ h=>h) (Or.inl ⟨by rfl,?_⟩) hHeld ?_
    rotate_left
    ·(intro w' hSw;(try dsimp only at hSw);go_simp;(try with_reducible rfl))
    try simp only [Act.put,List.setIfInBounds_toArray,List.set_cons_zero,List.set_cons_succ]
    refine wpAnyH_done (by kernel_rfl) ?_ _
    clear hHeld k1 f1 hgz1 HMN
    have hb4:Blk ((w3.alloc (.cells #[.int .i64 (k:Int),.int .i64 id,.int .i64 (ms.length:Int),.int .i64 m] 3)).drew) w3.heap.size 3 #[.int .i64 (k:Int),.int .i64 id,.int .i64 (ms.length:Int),.int .i64 m]:=(Blk.new _ _ _).drew
    have hx4:Ext w3 ((w3.alloc (.cells #[.int .i64 (k:Int),.int .i64 id,.int .i64 (ms.length:Int),.int .i64 m] 3)).drew):=(Ext.alloc (Ext.refl w3) _).drew
    generalize (w3.alloc (.cells #[.int .i64 (k:Int),.int .i64 id,.int .i64 (ms.length:Int),.int .i64 m] 3)).drew=w4 at *
    generalize w3.heap.size=nb at *
    have HB4:=Lib.hid hb4
    have HGP4:=Lib.hid (HGP.out.keep hx4)
    have HW4:=Lib.hid (HW.out.keep hx4)
    have HX4:=Lib.hid (HX3.out.trans hx4)
    clear hb4 hx4 HGP HW HX3
    go_wp2_with fail
    generalize wr=wp at *
    go_loopw [96] (fun s96 wq=>∃j:Nat,j≤4∧s96= .int .i64 (j:Int)∧Ext w4 wq) (fun s96 _=>4-(intOf s96).toNat)
    case atStart=>exact ⟨0,by decide,rfl,Ext.refl _⟩
    case round=>
     obtain ⟨j,hj,rfl,hxq⟩:=hrel
     have HXQ:=Lib.hid hxq
     clear hxq
     by_cases hlj:j<4
     ·have hj1:(j:Int)<4:=by omega
      have hj2:decide ((j:Int)<4)=true:=decide_eq_true hj1
      have hwj:IntKind.i64.wrap ((j:Int)+1)=(j:Int)+1:=IntWalk.i64_in _ (by omega)
      obtain ⟨x,hcx⟩:∃x:Int,wr.cell? ⟨nb,j,none⟩=some (.int .i64 x):=by
       have hb:=HB4.out.ext HXQ.out
       rcases (show j=0∨j=1∨j=2∨j=3 by omega) with rfl|rfl|rfl|rfl
       ·exact ⟨_,hb.cell 0⟩
       ·exact ⟨_,hb.cell 1⟩
       ·exact ⟨_,hb.cell 2⟩
       ·exact ⟨_,hb.cell 3⟩
      have HEA:=Lib.hid (gexpr_any _ g b wr ms nv (HGP4.out.keep HXQ.out) x)
      have HEB:=Lib.hid (fun W (hx:Ext wr W)=>rexprG_any _ gr W ms _ (HW4.out.keep (HXQ.out.trans hx)) x)
      go_wp2_with fail
      refine HEA.out.mono ?_
      rintro e w5 ⟨v5,L,cc,rfl,hr5,he5,hl5,hx5⟩
      have HR5:=Lib.hid hr5
      have HX5:=Lib.hid hx5
      clear hr5 hx5 HEA hcx
      go_wp2_with fail
      refine (HEB.out _ HX5.out).mono ?_
      rintro e w6 ⟨v6,L',cc',rfl,hr6,he6,hl6,hx6⟩
      obtain ⟨e1,e2⟩:=ExprG.uniq he5 he6
      subst e1
      subst e2
      have HSD:=Lib.hid (rsameD_any w6 _ _ L L (HR5.out.ext hx6) hr6 (by omega) (by omega))
      have HX6:=Lib.hid ((HXQ.out.trans HX5.out).trans hx6)
      clear HR5 HEB hr6 hx6 he5 he6 hl5 hl6 HX5
      go_wp2_with fail
      refine HSD.out.mono ?_
      rintro e w7 ⟨rb,rfl,hiff,hd7⟩
      have hrb:rb=true:=hiff.2 rfl
      subst hrb
      have HX7:=Lib.hid (HX6.out.trans hd7.ext)
      clear hiff hd7 HX6 HSD
      go_wp2_with fail
      go_roundw
      ·exact ⟨j+1,hlj,by go_num,HX7.out⟩
      ·simp only [intOf];omega
     ·have hj1:¬((j:Int)<4):=by omega
      have hj2:decide ((j:Int)<4)=false:=decide_eq_false hj1
      have HSA:=Lib.hid (same21_any _ g b _ gr wr ms nv _ (HGP4.out.keep HXQ.out) (HW4.out.keep HXQ.out))
      go_wp2_with fail
      refine HSA.out.mono ?_
      rintro e w5 ⟨rfl,hx5⟩
      have HX5:=Lib.hid ((HX4.out.trans HXQ.out).trans hx5)
      go_wp2_with fail
      go_ret
      exact ⟨rfl,HX5.out⟩
 ·have h0:ns.length=0:=by omega
  have hn0:ns=[]:=List.eq_nil_of_length_eq_zero h0
  subst hn0
  have HPU:=Lib.hid (rput_any (w1.heap.size+1) gr w2 [] _ HGR.out ⟨3,0,0,0,[]⟩ (.inl ⟨3,[],rfl,.inr (.inr ⟨.inl rfl,rfl⟩)⟩) (by decide))
  have hE:ndV ⟨3,0,0,0,[]⟩= .agg #[.int .i64 3,.int .i64 0,.int .i64 0,.int .i64 0,.string ⟨#[]⟩]:=rfl
  rw [hE] at HPU
  have HPP:Hid ((putG ([]:List Nd) ⟨3,0,0,0,[]⟩).2=[⟨3,0,0,0,[]⟩]):=Lib.hid (by unfold putG;rw [if_neg (by simp)];rfl)
  clear hp hE h0
  go_wp2_with fail
  refine HPU.out.mono ?_
  rintro r w3 ⟨rv3,rfl,hk3,hg3⟩
  rw [HPP.out] at hg3
  have HST:Hid (∃(k':Nat) (ms:List Nd) (rw:Value),(0:Int)=(k':Int)∧GrR (w1.heap.size+1) gr w3 ms rw∧k'<ms.length∧ms.length≤76∧Ext w w3):=Lib.hid ⟨0,_,rv3,rfl,hg3,by decide,by decide,HX2.out.more (Below.mono (hk3.belowR HGR.out) hb0)⟩
  clear hk3 hg3 k0 f0 hgz0 HGR HX2 hns HPU HPP
  go_wp2_with fail
  refine (HM45.out _).mono ?_
  rintro e w3 ⟨rfl,rfl⟩
  go_wp2_with fail
  go_loopw [8,43] (fun s8 s43 wr=>∃i:Nat,i≤r45∧s43= .int .i64 (i:Int)∧∃(k:Nat) (ms:List Nd) (rw:Value),s8= .int .i64 (k:Int)∧GrR (w1.heap.size+1) gr wr ms rw∧k<ms.length∧ms.length≤76+i∧Ext w wr) (fun _ s43 _=>r45-(intOf s43).toNat)
  case atStart=>
   obtain ⟨k,ms,rw,e,hg,hk,hms,hx⟩:=HST.out
   exact ⟨0,Nat.zero_le _,rfl,k,ms,rw,by rw [e],hg,hk,by omega,hx⟩
  case round=>
   clear HST
   obtain ⟨i,hi,rfl,k,ms,rw,rfl,hg,hk,hms,hx⟩:=hrel
   have HG:=Lib.hid hg
   have HX:=Lib.hid hx
   clear hg hx
   obtain ⟨AW,cW,rfl⟩:=HG.out.row.shape
   by_cases hlt:i<r45
   ·have hwi:IntKind.i64.wrap ((i:Int)+1)=(i:Int)+1:=IntWalk.i64_in _ (by omega)
    have hii:(i:Int)<(r45:Int):=by omega
    have HPU:=Lib.hid (fun W (hx:Ext wr W)=>rput_any (w1.heap.size+1) gr W ms _ (HG.out.keep hx) _ (dbl_ok hk r3 hr3) (by omega))
    unfold RPutPost at HPU
    obtain ⟨kk,hkk⟩:∃kk:Int,kk=(if r3=0 then 6 else if r3=1 then 8 else 5):=⟨_,rfl⟩
    obtain ⟨bb,hbb⟩:∃bb:Int,bb=(if r3=2 then 0 else (k:Int)):=⟨_,rfl⟩
    rw [←hkk,←hbb] at HPU
    have hE:ndV ⟨kk,(k:Int),bb,0,[]⟩= .agg #[.int .i64 kk,.int .i64 (k:Int),.int .i64 bb,.int .i64 0,.string ⟨#[]⟩]:=rfl
    rw [hE] at HPU
    have HP1:=Lib.hid (putG_lt ms ⟨kk,(k:Int),bb,0,[]⟩)
    have HP2:=Lib.hid (putG_len ms ⟨kk,(k:Int),bb,0,[]⟩)
    generalize putG ms ⟨kk,(k:Int),bb,0,[]⟩=pp at HPU HP1 HP2
    obtain ⟨pk,pms⟩:=pp
    have HRA:Hid (∀W b,Blk W b 3 #[.int .i64 6,.int .i64 8,.int .i64 5]→W.cell? ⟨b,r3.toNat,none⟩=some (.int .i64 kk)):=Lib.hid (fun W b hb=>by subst hkk;rcases hr3 with rfl|rfl|rfl<;>exact hb.cell _)
    have HRB:Hid (∀W b,Blk W b 3 #[.int .i64 (k:Int),.int .i64 (k:Int),.int .i64 0]→W.cell? ⟨b,r3.toNat,none⟩=some (.int .i64 bb)):=Lib.hid (fun W b hb=>by subst hbb;rcases hr3 with rfl|rfl|rfl<;>exact hb.cell _)
    have HKB:Hid (∀j,wr.heap.size≤j→j≠gr∧(Value.slice AW ms.length cW).ownBlock≠some j):=Lib.hid (fun j hj=>⟨by have:=HG.out.lt;omega,fun e=>by have:=ownsRow_ltG HG.out.row e;omega⟩)
    have hq0:0≤r3:=by omega
    have hq1:r3<3:=by omega
    clear hE hk hkk hbb hr3
    go_upto_region 12 with fail
    refine wp_region_held_drew (S:=fun _=>True) (by kernel_rfl) (by exact trivial) (fun hHeld=> ?_)
    refine' wpAnyH_take (i:=0) (oi:=⟨some 46,_,_,_,_,_⟩) (v:=_) rfl (by kernel_rfl) (by kernel_rfl) (by kernel_rfl) (fun _ _ _ h=>h) (Or.inl ⟨by rfl,?_⟩) hHeld ?_
    rotate_left
    ·(intro w' hSw;(try dsimp only at hSw);go_simp;(try with_reducible rfl))
    try simp only [Act.put,List.setIfInBounds_toArray,List.set_cons_zero,List.set_cons_succ]
    refine' wpAnyH_take (i:=2) (oi:=⟨some 48,_,_,_,_,_⟩) (v:=_) rfl (by kernel_rfl) (by kernel_rfl) (by kernel_rfl) (fun _ _ _ h=>h) (Or.inl ⟨by rfl,?_⟩) hHeld ?_
    rotate_left
    ·(intro w' hSw;(try dsimp only at hSw);go_simp;(try with_reducible rfl))
    try simp only [Act.put,List.setIfInBounds_toArray,List.set_cons_zero,List.set_cons_succ]
    refine' wpAnyH_take (i:=6) (oi:=⟨some 52,_,_,_,_,_⟩) (v:=_) rfl (by kernel_rfl) (by kernel_rfl) (by kernel_rfl) (fun _ _ _ h=>h) (Or.inl ⟨by rfl,?_⟩) hHeld ?_
    rotate_left
    ·(intro w' hSw;(try dsimp only at hSw);go_simp;(try with_reducible rfl))
    try simp only [Act.put,List.setIfInBounds_toArray,List.set_cons_zero,List.set_cons_succ]
    refine' wpAnyH_take (i:=7) (oi:=⟨some 53,_,_,_,_,_⟩) (v:=_) rfl (by kernel_rfl) (by kernel_rfl) (by kernel_rfl) (fun _ _ _ h=>h) (Or.inl ⟨by rfl,?_⟩) hHeld ?_
    rotate_left
    ·(intro w' hSw;(try dsimp only at hSw);go_simp;(try with_reducible rfl))
    try simp only [Act.put,List.setIfInBounds_toArray,List.set_cons_zero,List.set_cons_succ]
    refine' wpAnyH_take (i:=8) (oi:=⟨some 54,_,_,_,_,_⟩) (v:=_) rfl (by kernel_rfl) (by kernel_rfl) (by kernel_rfl) (fun _ _ _ h=>h) (Or.inl ⟨by rfl,?_⟩) hHeld ?_
    rotate_left
    ·(intro w' hSw;(try dsimp only at hSw);go_simp;(try with_reducible rfl))
    try simp only [Act.put,List.setIfInBounds_toArray,List.set_cons_zero,List.set_cons_succ]
    refine' wpAnyH_take (i:=10) (oi:=⟨some 56,_,_,_,_,_⟩) (v:=_) rfl (by kernel_rfl) (by kernel_rfl) (by kernel_rfl) (fun _ _ _ h=>h) (Or.inl ⟨by rfl,?_⟩) hHeld ?_
    rotate_left
    ·(intro w' hSw;(try dsimp only at hSw);go_simp;(try with_reducible rfl))
    try simp only [Act.put,List.setIfInBounds_toArray,List.set_cons_zero,List.set_cons_succ]
    refine' qcall_take (i:=3) (oi:=⟨some 49,_,_,_,_,_⟩) (v:= .int .i64 r3) rfl (by kernel_rfl) (by kernel_rfl) (by kernel_rfl) (fun _ _ _ h=>h) ⟨by rfl,fun w' _=>⟨_,_,?_,HM3.out w'⟩⟩ hHeld ?_
    ·(go_simp;(try with_reducible rfl))
    try simp only [Act.put,List.setIfInBounds_toArray,List.set_cons_zero,List.set_cons_succ]
    refine' qcall_take (i:=11) (oi:=⟨some 57,_,_,_,_,_⟩) (v:= .int .i64 r3) rfl (by kernel_rfl) (by kernel_rfl) (by kernel_rfl) (fun _ _ _ h=>h) ⟨by rfl,fun w' _=>⟨_,_,?_,HM3.out w'⟩⟩ hHeld ?_
    ·(go_simp;(try with_reducible rfl))
    try simp only [Act.put,List.setIfInBounds_toArray,List.set_cons_zero,List.set_cons_succ]
    refine wpAnyH_ready (rs:=[1,9]) (by kernel_rfl) (by simp) ?_
    refine AllReadyH.cons (i:=1) rfl (fun K hK=> ?_) (AllReadyH.cons (i:=9) rfl (fun K hK=> ?_) AllReadyH.nil)
    ·go_simp
     try go_wp2_with fail
     refine hK.out _ _ ?_ (fun hHeld=> ?_)
     ·trivial
     clear hK K
     try simp only [Act.put,List.setIfInBounds_toArray,List.set_cons_zero,List.set_cons_succ]
     have hb1:Blk ((wr.alloc (.cells #[.int .i64 6,.int .i64 8,.int .i64 5] 3)).drew) wr.heap.size 3 #[.int .i64 6,.int .i64 8,.int .i64 5]:=(Blk.new _ _ _).drew
     refine held_of (S':=fun w'=>Blk w' wr.heap.size 3 #[.int .i64 6,.int .i64 8,.int .i64 5]) (fun _ _=>trivial) _ _ _ _ ?_
     have hHeld:(fun w'=>Blk w' wr.heap.size 3 #[.int .i64 6,.int .i64 8,.int .i64 5]) ((wr.alloc (.cells #[.int .i64 6,.int .i64 8,.int .i64 5] 3)).drew):=hb1
     refine' wpAnyH_take (i:=4) (oi:=⟨some 50,_,_,_,_,_⟩) (v:=_) rfl (by kernel_rfl) (by kernel_rfl) (by kernel_rfl) (fun _ _ _ h=>h) (Or.inl ⟨by rfl,?_⟩) hHeld ?_
     rotate_left
     ·(intro w' hSw;(try dsimp only at hSw);go_simp;(try with_reducible rfl))
     try simp only [Act.put,List.setIfInBounds_toArray,List.set_cons_zero,List.set_cons_succ]
     refine' wpAnyH_take (i:=5) (oi:=⟨some 51,_,_,_,_,_⟩) (v:=_) rfl (by kernel_rfl) (by kernel_rfl) (by kernel_rfl) (fun _ _ _ h=>h) (Or.inl ⟨by rfl,?_⟩) hHeld ?_
     rotate_left
     ·(intro w' hSw;(try dsimp only at hSw);have hcx:=HRA.out _ _ hSw;go_simp;(try with_reducible rfl))
     try simp only [Act.put,List.setIfInBounds_toArray,List.set_cons_zero,List.set_cons_succ]
     refine wpAnyH_ready (rs:=[9]) (by kernel_rfl) (by simp) ?_
     refine AllReadyH.cons (i:=9) rfl (fun K hK=> ?_) AllReadyH.nil
     go_simp
     try go_wp2_with fail
     refine hK.out _ _ ?_ (fun hHeld=> ?_)
     ·exact Blk.ext (Blk.new wr 3 #[.int .i64 6,.int .i64 8,.int .i64 5]) (Ext.alloc (Ext.refl _) _).drew
     clear hK K
     try simp only [Act.put,List.setIfInBounds_toArray,List.set_cons_zero,List.set_cons_succ]
     have hb2:Blk (((wr.alloc (.cells #[.int .i64 6,.int .i64 8,.int .i64 5] 3)).alloc (.cells #[.int .i64 (k:Int),.int .i64 (k:Int),.int .i64 0] 3)).drew) wr.heap.size 3 #[.int .i64 6,.int .i64 8,.int .i64 5]∧Blk (((wr.alloc (.cells #[.int .i64 6,.int .i64 8,.int .i64 5] 3)).alloc (.cells #[.int .i64 (k:Int),.int .i64 (k:Int),.int .i64 0] 3)).drew) (wr.heap.size+1) 3 #[.int .i64 (k:Int),.int .i64 (k:Int),.int .i64 0]:=⟨Blk.ext (Blk.new wr 3 #[.int .i64 6,.int .i64 8,.int .i64 5]) (Ext.alloc (Ext.refl _) _).drew,(blk_new2 wr _ _).drew⟩
     refine held_of (S':=fun w'=>Blk w' wr.heap.size 3 #[.int .i64 6,.int .i64 8,.int .i64 5]∧Blk w' (wr.heap.size+1) 3 #[.int .i64 (k:Int),.int .i64 (k:Int),.int .i64 0]) (fun _ h=>h.1) _ _ _ _ ?_
     have hHeld:(fun w'=>Blk w' wr.heap.size 3 #[.int .i64 6,.int .i64 8,.int .i64 5]∧Blk w' (wr.heap.size+1) 3 #[.int .i64 (k:Int),.int .i64 (k:Int),.int .i64 0]) (((wr.alloc (.cells #[.int .i64 6,.int .i64 8,.int .i64 5] 3)).alloc (.cells #[.int .i64 (k:Int),.int .i64 (k:Int),.int .i64 0] 3)).drew):=hb2
     clear hb1 hb2
     refine' wpAnyH_take (i:=12) (oi:=⟨some 58,_,_,_,_,_⟩) (v:=_) rfl (by kernel_rfl) (by kernel_rfl) (by kernel_rfl) (fun _ _ _ h=>h) (Or.inl ⟨by rfl,?_⟩) hHeld ?_
     rotate_left
     ·(intro w' hSw;(try dsimp only at hSw);go_simp;(try with_reducible rfl))
     try simp only [Act.put,List.setIfInBounds_toArray,List.set_cons_zero,List.set_cons_succ]
     refine' wpAnyH_take (i:=13) (oi:=⟨some 59,_,_,_,_,_⟩) (v:=_) rfl (by kernel_rfl) (by kernel_rfl) (by kernel_rfl) (fun _ _ _ h=>h) (Or.inl ⟨by rfl,?_⟩) hHeld ?_
     rotate_left
     ·(intro w' hSw;(try dsimp only at hSw);have hcx:=HRB.out _ _ hSw.2;go_simp;(try with_reducible rfl))
     try simp only [Act.put,List.setIfInBounds_toArray,List.set_cons_zero,List.set_cons_succ]
     refine' wpAnyH_take (i:=14) (oi:=⟨some 60,_,_,_,_,_⟩) (v:=_) rfl (by kernel_rfl) (by kernel_rfl) (by kernel_rfl) (fun _ _ _ h=>h) (Or.inl ⟨by rfl,?_⟩) hHeld ?_
     rotate_left
     ·(intro w' hSw;(try dsimp only at hSw);go_simp;(try with_reducible rfl))
     try simp only [Act.put,List.setIfInBounds_toArray,List.set_cons_zero,List.set_cons_succ]
     refine wpAnyH_ready (rs:=[15]) (by kernel_rfl) (by simp) ?_
     refine AllReadyH.cons (i:=15) rfl (fun K hK=> ?_) AllReadyH.nil
     go_simp
     (go_at_call 22;refine (HPU.out _ (Ext.alloc (Ext.alloc (Ext.refl wr) _) _).drew).mono ?_;rintro e w9 ⟨rv9,rfl,hk9,hg9⟩;have HS9:=And.intro (hk9.blk hHeld.1 (HKB.out _ (Nat.le_refl _)).1 (HKB.out _ (Nat.le_refl _)).1 (HKB.out _ (Nat.le_refl _)).2) (hk9.blk hHeld.2 (HKB.out _ (Nat.le_succ _)).1 (HKB.out _ (Nat.le_succ _)).1 (HKB.out _ (Nat.le_succ _)).2);have HG9:=Lib.hid hg9;have HX9:=Lib.hid (Ext.more (HX.out.trans (Ext.alloc (Ext.alloc (Ext.refl wr) _) _).drew) (Below.mono (hk9.belowR (HG.out.keep (Ext.alloc (Ext.alloc (Ext.refl wr) _) _).drew)) hb0));clear hk9 hg9)
     try go_wp2_with fail
     refine hK.out _ _ ?_ (fun hHeld=> ?_)
     ·exact HS9
     clear hK K
     try simp only [Act.put,List.setIfInBounds_toArray,List.set_cons_zero,List.set_cons_succ]
     refine' wpAnyH_take (i:=16) (oi:=⟨some 45,_,_,_,_,_⟩) (v:=_) rfl (by kernel_rfl) (by kernel_rfl) (by kernel_rfl) (fun _ _ _ h=>h) (Or.inl ⟨by rfl,?_⟩) hHeld ?_
     rotate_left
     ·(intro w' hSw;(try dsimp only at hSw);go_simp;(try with_reducible rfl))
     try simp only [Act.put,List.setIfInBounds_toArray,List.set_cons_zero,List.set_cons_succ]
     refine' wpAnyH_take (i:=17) (oi:=⟨some 62,_,_,_,_,_⟩) (v:=_) rfl (by kernel_rfl) (by kernel_rfl) (by kernel_rfl) (fun _ _ _ h=>h) (Or.inl ⟨by rfl,?_⟩) hHeld ?_
     rotate_left
     ·(intro w' hSw;(try dsimp only at hSw);go_simp;(try with_reducible rfl))
     try simp only [Act.put,List.setIfInBounds_toArray,List.set_cons_zero,List.set_cons_succ]
     refine' wpAnyH_take (i:=18) (oi:=⟨some 63,_,_,_,_,_⟩) (v:=_) rfl (by kernel_rfl) (by kernel_rfl) (by kernel_rfl) (fun _ _ _ h=>h) (Or.inl ⟨by rfl,?_⟩) hHeld ?_
     rotate_left
     ·(intro w' hSw;(try dsimp only at hSw);go_simp;(try with_reducible rfl))
     try simp only [Act.put,List.setIfInBounds_toArray,List.set_cons_zero,List.set_cons_succ]
     refine' wpAnyH_take (i:=19) (oi:=⟨some 8,_,_,_,_,_⟩) (v:=_) rfl (by kernel_rfl) (by kernel_rfl) (by kernel_rfl) (fun _ _ _ h=>h) (Or.inl ⟨by rfl,?_⟩) hHeld ?_
     rotate_left
     ·(intro w' hSw;(try dsimp only at hSw);go_simp;(try with_reducible rfl))
     try simp only [Act.put,List.setIfInBounds_toArray,List.set_cons_zero,List.set_cons_succ]
     refine wpAnyH_done (by kernel_rfl) ?_ _
     clear hHeld HS9
     go_wp2_with fail
     go_roundw
     ·exact ⟨i+1,hlt,by go_num,pk,pms,rv9,rfl,HG9.out,HP1.out,by have:=HP2.out;omega,HX9.out⟩
     ·simp only [intOf];omega
    ·go_simp
     try go_wp2_with fail
     refine hK.out _ _ ?_ (fun hHeld=> ?_)
     ·trivial
     clear hK K
     try simp only [Act.put,List.setIfInBounds_toArray,List.set_cons_zero,List.set_cons_succ]
     have hb1:Blk ((wr.alloc (.cells #[.int .i64 (k:Int),.int .i64 (k:Int),.int .i64 0] 3)).drew) wr.heap.size 3 #[.int .i64 (k:Int),.int .i64 (k:Int),.int .i64 0]:=(Blk.new _ _ _).drew
     refine held_of (S':=fun w'=>Blk w' wr.heap.size 3 #[.int .i64 (k:Int),.int .i64 (k:Int),.int .i64 0]) (fun _ _=>trivial) _ _ _ _ ?_
     have hHeld:(fun w'=>Blk w' wr.heap.size 3 #[.int .i64 (k:Int),.int .i64 (k:Int),.int .i64 0]) ((wr.alloc (.cells #[.int .i64 (k:Int),.int .i64 (k:Int),.int .i64 0] 3)).drew):=hb1
     refine' wpAnyH_take (i:=12) (oi:=⟨some 58,_,_,_,_,_⟩) (v:=_) rfl (by kernel_rfl) (by kernel_rfl) (by kernel_rfl) (fun _ _ _ h=>h) (Or.inl ⟨by rfl,?_⟩) hHeld ?_
     rotate_left
     ·(intro w' hSw;(try dsimp only at hSw);go_simp;(try with_reducible rfl))
     try simp only [Act.put,List.setIfInBounds_toArray,List.set_cons_zero,List.set_cons_succ]
     refine' wpAnyH_take (i:=13) (oi:=⟨some 59,_,_,_,_,_⟩) (v:=_) rfl (by kernel_rfl) (by kernel_rfl) (by kernel_rfl) (fun _ _ _ h=>h) (Or.inl ⟨by rfl,?_⟩) hHeld ?_
     rotate_left
     ·(intro w' hSw;(try dsimp only at hSw);have hcx:=HRB.out _ _ hSw;go_simp;(try with_reducible rfl))
     try simp only [Act.put,List.setIfInBounds_toArray,List.set_cons_zero,List.set_cons_succ]
     refine wpAnyH_ready (rs:=[1]) (by kernel_rfl) (by simp) ?_
     refine AllReadyH.cons (i:=1) rfl (fun K hK=> ?_) AllReadyH.nil
     go_simp
     try go_wp2_with fail
     refine hK.out _ _ ?_ (fun hHeld=> ?_)
     ·exact Blk.ext (Blk.new wr 3 #[.int .i64 (k:Int),.int .i64 (k:Int),.int .i64 0]) (Ext.alloc (Ext.refl _) _).drew
     clear hK K
     try simp only [Act.put,List.setIfInBounds_toArray,List.set_cons_zero,List.set_cons_succ]
     have hb2:Blk (((wr.alloc (.cells #[.int .i64 (k:Int),.int .i64 (k:Int),.int .i64 0] 3)).alloc (.cells #[.int .i64 6,.int .i64 8,.int .i64 5] 3)).drew) wr.heap.size 3 #[.int .i64 (k:Int),.int .i64 (k:Int),.int .i64 0]∧Blk (((wr.alloc (.cells #[.int .i64 (k:Int),.int .i64 (k:Int),.int .i64 0] 3)).alloc (.cells #[.int .i64 6,.int .i64 8,.int .i64 5] 3)).drew) (wr.heap.size+1) 3 #[.int .i64 6,.int .i64 8,.int .i64 5]:=⟨Blk.ext (Blk.new wr 3 #[.int .i64 (k:Int),.int .i64 (k:Int),.int .i64 0]) (Ext.alloc (Ext.refl _) _).drew,(blk_new2 wr _ _).drew⟩
     refine held_of (S':=fun w'=>Blk w' wr.heap.size 3 #[.int .i64 (k:Int),.int .i64 (k:Int),.int .i64 0]∧Blk w' (wr.heap.size+1) 3 #[.int .i64 6,.int .i64 8,.int .i64 5]) (fun _ h=>h.1) _ _ _ _ ?_
     have hHeld:(fun w'=>Blk w' wr.heap.size 3 #[.int .i64 (k:Int),.int .i64 (k:Int),.int .i64 0]∧Blk w' (wr.heap.size+1) 3 #[.int .i64 6,.int .i64 8,.int .i64 5]) (((wr.alloc (.cells #[.int .i64 (k:Int),.int .i64 (k:Int),.int .i64 0] 3)).alloc (.cells #[.int .i64 6,.int .i64 8,.int .i64 5] 3)).drew):=hb2
     clear hb1 hb2
     refine' wpAnyH_take (i:=4) (oi:=⟨some 50,_,_,_,_,_⟩) (v:=_) rfl (by kernel_rfl) (by kernel_rfl) (by kernel_rfl) (fun _ _ _ h=>h) (Or.inl ⟨by rfl,?_⟩) hHeld ?_
     rotate_left
     ·(intro w' hSw;(try dsimp only at hSw);go_simp;(try with_reducible rfl))
     try simp only [Act.put,List.setIfInBounds_toArray,List.set_cons_zero,List.set_cons_succ]
     refine' wpAnyH_take (i:=5) (oi:=⟨some 51,_,_,_,_,_⟩) (v:=_) rfl (by kernel_rfl) (by kernel_rfl) (by kernel_rfl) (fun _ _ _ h=>h) (Or.inl ⟨by rfl,?_⟩) hHeld ?_
     rotate_left
     ·(intro w' hSw;(try dsimp only at hSw);have hcx:=HRA.out _ _ hSw.2;go_simp;(try with_reducible rfl))
     try simp only [Act.put,List.setIfInBounds_toArray,List.set_cons_zero,List.set_cons_succ]
     refine' wpAnyH_take (i:=14) (oi:=⟨some 60,_,_,_,_,_⟩) (v:=_) rfl (by kernel_rfl) (by kernel_rfl) (by kernel_rfl) (fun _ _ _ h=>h) (Or.inl ⟨by rfl,?_⟩) hHeld ?_
     rotate_left
     ·(intro w' hSw;(try dsimp only at hSw);go_simp;(try with_reducible rfl))
     try simp only [Act.put,List.setIfInBounds_toArray,List.set_cons_zero,List.set_cons_succ]
     refine wpAnyH_ready (rs:=[15]) (by kernel_rfl) (by simp) ?_
     refine AllReadyH.cons (i:=15) rfl (fun K hK=> ?_) AllReadyH.nil
     go_simp
     (go_at_call 22;refine (HPU.out _ (Ext.alloc (Ext.alloc (Ext.refl wr) _) _).drew).mono ?_;rintro e w9 ⟨rv9,rfl,hk9,hg9⟩;have HS9:=And.intro (hk9.blk hHeld.1 (HKB.out _ (Nat.le_refl _)).1 (HKB.out _ (Nat.le_refl _)).1 (HKB.out _ (Nat.le_refl _)).2) (hk9.blk hHeld.2 (HKB.out _ (Nat.le_succ _)).1 (HKB.out _ (Nat.le_succ _)).1 (HKB.out _ (Nat.le_succ _)).2);have HG9:=Lib.hid hg9;have HX9:=Lib.hid (Ext.more (HX.out.trans (Ext.alloc (Ext.alloc (Ext.refl wr) _) _).drew) (Below.mono (hk9.belowR (HG.out.keep (Ext.alloc (Ext.alloc (Ext.refl wr) _) _).drew)) hb0));clear hk9 hg9)
     try go_wp2_with fail
     refine hK.out _ _ ?_ (fun hHeld=> ?_)
     ·exact HS9
     clear hK K
     try simp only [Act.put,List.setIfInBounds_toArray,List.set_cons_zero,List.set_cons_succ]
     refine' wpAnyH_take (i:=16) (oi:=⟨some 45,_,_,_,_,_⟩) (v:=_) rfl (by kernel_rfl) (by kernel_rfl) (by kernel_rfl) (fun _ _ _ h=>h) (Or.inl ⟨by rfl,?_⟩) hHeld ?_
     rotate_left
     ·(intro w' hSw;(try dsimp only at hSw);go_simp;(try with_reducible rfl))
     try simp only [Act.put,List.setIfInBounds_toArray,List.set_cons_zero,List.set_cons_succ]
     refine' wpAnyH_take (i:=17) (oi:=⟨some 62,_,_,_,_,_⟩) (v:=_) rfl (by kernel_rfl) (by kernel_rfl) (by kernel_rfl) (fun _ _ _ h=>h) (Or.inl ⟨by rfl,?_⟩) hHeld ?_
     rotate_left
     ·(intro w' hSw;(try dsimp only at hSw);go_simp;(try with_reducible rfl))
     try simp only [Act.put,List.setIfInBounds_toArray,List.set_cons_zero,List.set_cons_succ]
     refine' wpAnyH_take (i:=18) (oi:=⟨some 63,_,_,_,_,_⟩) (v:=_) rfl (by kernel_rfl) (by kernel_rfl) (by kernel_rfl) (fun _ _ _ h=>h) (Or.inl ⟨by rfl,?_⟩) hHeld ?_
     rotate_left
     ·(intro w' hSw;(try dsimp only at hSw);go_simp;(try with_reducible rfl))
     try simp only [Act.put,List.setIfInBounds_toArray,List.set_cons_zero,List.set_cons_succ]
     refine' wpAnyH_take (i:=19) (oi:=⟨some 8,_,_,_,_,_⟩) (v:=_) rfl (by kernel_rfl) (by kernel_rfl) (by kernel_rfl) (fun _ _ _ h=>h) (Or.inl ⟨by rfl,?_⟩) hHeld ?_
     rotate_left
     ·(intro w' hSw;(try dsimp only at hSw);go_simp;(try with_reducible rfl))
     try simp only [Act.put,List.setIfInBounds_toArray,List.set_cons_zero,List.set_cons_succ]
     refine wpAnyH_done (by kernel_rfl) ?_ _
     clear hHeld HS9
     go_wp2_with fail
     go_roundw
     ·exact ⟨i+1,hlt,by go_num,pk,pms,rv9,rfl,HG9.out,HP1.out,by have:=HP2.out;omega,HX9.out⟩
     ·simp only [intOf];omega
   ·have hir:decide ((i:Int)<(r45:Int))=false:=decide_eq_false (by omega)
    have hir':¬((i:Int)<(r45:Int)):=by omega
    have HLO:=Lib.hid (gload_any _ wr _ ms HG.out.row HG.out.ok HG.out.few (HM.out.ext HX.out))
    obtain ⟨k0,f0,hgz0⟩:=HG.out.blk.oneG
    have hfew:=HG.out.few
    clear hr3 HM3 HM45
    go_wp2_with fail
    refine HLO.out.mono ?_
    rintro e w3 ⟨g,b,nv,rfl,hg,hx3⟩
    have HGP:=Lib.hid hg
    have HW:=Lib.hid (HG.out.keep hx3)
    have HX3:=Lib.hid (HX.out.trans hx3)
    clear hg hx3 HLO k0 f0 hgz0 HG HX hir hir'
    obtain ⟨k1,f1,hgz1⟩:=HW.out.blk.oneG
    have HMN:=Lib.hid (fun W=>mod_any W id (ms.length:Int) hi1.1 hi1.2 (by omega) (by omega))
    obtain ⟨m,hmm⟩:∃m:Int,m=id % (ms.length:Int):=⟨_,rfl⟩
    rw [←hmm] at HMN
    clear hmm
    go_upto_region 17 with fail
    refine wp_region_held_drew (S:=fun w'=>w'.cell? ⟨gr,0,none⟩=some (.slice AW ms.length cW)) (by kernel_rfl) (by exact k1) (fun hHeld=> ?_)
    refine' wpAnyH_take (i:=0) (oi:=⟨some 80,_,_,_,_,_⟩) (v:=_) rfl (by kernel_rfl) (by kernel_rfl) (by kernel_rfl) (fun _ _ _ h=>h) (Or.inl ⟨by rfl,?_⟩) hHeld ?_
    rotate_left
    ·(intro w' hSw;(try dsimp only at hSw);go_simp;(try with_reducible rfl))
    try simp only [Act.put,List.setIfInBounds_toArray,List.set_cons_zero,List.set_cons_succ]
    refine' wpAnyH_take (i:=1) (oi:=⟨some 81,_,_,_,_,_⟩) (v:=_) rfl (by kernel_rfl) (by kernel_rfl) (by kernel_rfl) (fun _ _ _ h=>h) (Or.inl ⟨by rfl,?_⟩) hHeld ?_
    rotate_left
    ·(intro w' hSw;(try dsimp only at hSw);go_simp;(try with_reducible rfl))
    try simp only [Act.put,List.setIfInBounds_toArray,List.set_cons_zero,List.set_cons_succ]
    refine' wpAnyH_take (i:=2) (oi:=⟨some 82,_,_,_,_,_⟩) (v:=_) rfl (by kernel_rfl) (by kernel_rfl) (by kernel_rfl) (fun _ _ _ h=>h) (Or.inl ⟨by rfl,?_⟩) hHeld ?_
    rotate_left
    ·(intro w' hSw;(try dsimp only at hSw);go_simp;(try with_reducible rfl))
    try simp only [Act.put,List.setIfInBounds_toArray,List.set_cons_zero,List.set_cons_succ]
    refine' wpAnyH_take (i:=3) (oi:=⟨some 83,_,_,_,_,_⟩) (v:=_) rfl (by kernel_rfl) (by kernel_rfl) (by kernel_rfl) (fun _ _ _ h=>h) (Or.inl ⟨by rfl,?_⟩) hHeld ?_
    rotate_left
    ·(intro w' hSw;(try dsimp only at hSw);go_simp;(try with_reducible rfl))
    try simp only [Act.put,List.setIfInBounds_toArray,List.set_cons_zero,List.set_cons_succ]
    refine' wpAnyH_take (i:=4) (oi:=⟨some 84,_,_,_,_,_⟩) (v:=_) rfl (by kernel_rfl) (by kernel_rfl) (by kernel_rfl) (fun _ _ _ h=>h) (Or.inl ⟨by rfl,?_⟩) hHeld ?_
    rotate_left
    ·(intro w' hSw;(try dsimp only at hSw);go_simp;(try with_reducible rfl))
    try simp only [Act.put,List.setIfInBounds_toArray,List.set_cons_zero,List.set_cons_succ]
    refine' wpAnyH_take (i:=5) (oi:=⟨some 85,_,_,_,_,_⟩) (v:=_) rfl (by kernel_rfl) (by kernel_rfl) (by kernel_rfl) (fun _ _ _ h=>h) (Or.inl ⟨by rfl,?_⟩) hHeld ?_
    rotate_left
    ·(intro w' hSw;(try dsimp only at hSw);go_simp;(try with_reducible rfl))
    try simp only [Act.put,List.setIfInBounds_toArray,List.set_cons_zero,List.set_cons_succ]
    refine' wpAnyH_take (i:=6) (oi:=⟨some 86,_,_,_,_,_⟩) (v:=_) rfl (by kernel_rfl) (by kernel_rfl) (by kernel_rfl) (fun _ _ _ h=>h) (Or.inl ⟨by rfl,?_⟩) hHeld ?_
    rotate_left
    ·(intro w' hSw;(try dsimp only at hSw);go_simp;(try with_reducible rfl))
    try simp only [Act.put,List.setIfInBounds_toArray,List.set_cons_zero,List.set_cons_succ]
    refine' wpAnyH_take (i:=7) (oi:=⟨some 87,_,_,_,_,_⟩) (v:=_) rfl (by kernel_rfl) (by kernel_rfl) (by kernel_rfl) (fun _ _ _ h=>h) (Or.inl ⟨by rfl,?_⟩) hHeld ?_
    rotate_left
    ·(intro w' hSw;(try dsimp only at hSw);go_simp;(try with_reducible rfl))
    try simp only [Act.put,List.setIfInBounds_toArray,List.set_cons_zero,List.set_cons_succ]
    refine' wpAnyH_take (i:=8) (oi:=⟨some 88,_,_,_,_,_⟩) (v:=_) rfl (by kernel_rfl) (by kernel_rfl) (by kernel_rfl) (fun _ _ _ h=>h) (Or.inl ⟨by rfl,?_⟩) hHeld ?_
    rotate_left
    ·(intro w' hSw;(try dsimp only at hSw);go_simp;(try with_reducible rfl))
    try simp only [Act.put,List.setIfInBounds_toArray,List.set_cons_zero,List.set_cons_succ]
    refine' wpAnyH_take (i:=9) (oi:=⟨some 89,_,_,_,_,_⟩) (v:=_) rfl (by kernel_rfl) (by kernel_rfl) (by kernel_rfl) (fun _ _ _ h=>h) (Or.inl ⟨by rfl,?_⟩) hHeld ?_
    rotate_left
    ·(intro w' hSw;(try dsimp only at hSw);go_simp;(try with_reducible rfl))
    try simp only [Act.put,List.setIfInBounds_toArray,List.set_cons_zero,List.set_cons_succ]
    refine' wpAnyH_take (i:=10) (oi:=⟨some 90,_,_,_,_,_⟩) (v:=_) rfl (by kernel_rfl) (by kernel_rfl) (by kernel_rfl) (fun _ _ _ h=>h) (Or.inl ⟨by rfl,?_⟩) hHeld ?_
    rotate_left
    ·(intro w' hSw;(try dsimp only at hSw);go_simp;(try with_reducible rfl))
    try simp only [Act.put,List.setIfInBounds_toArray,List.set_cons_zero,List.set_cons_succ]
    refine' wpAnyH_take (i:=11) (oi:=⟨some 91,_,_,_,_,_⟩) (v:=_) rfl (by kernel_rfl) (by kernel_rfl) (by kernel_rfl) (fun _ _ _ h=>h) (Or.inl ⟨by rfl,?_⟩) hHeld ?_
    rotate_left
    ·(intro w' hSw;(try dsimp only at hSw);go_simp;(try with_reducible rfl))
    try simp only [Act.put,List.setIfInBounds_toArray,List.set_cons_zero,List.set_cons_succ]
    refine' wpAnyH_take (i:=12) (oi:=⟨some 92,_,_,_,_,_⟩) (v:=_) rfl (by kernel_rfl) (by kernel_rfl) (by kernel_rfl) (fun _ _ _ h=>h) (Or.inl ⟨by rfl,?_⟩) hHeld ?_
    rotate_left
    ·(intro w' hSw;(try dsimp only at hSw);go_simp;(try with_reducible rfl))
    try simp only [Act.put,List.setIfInBounds_toArray,List.set_cons_zero,List.set_cons_succ]
    refine' qcall_take (i:=13) (oi:=⟨some 93,_,_,_,_,_⟩) (v:= .int .i64 m) rfl (by kernel_rfl) (by kernel_rfl) (by kernel_rfl) (fun _ _ _ h=>h) ⟨by rfl,fun w' _=>⟨_,_,?_,HMN.out w'⟩⟩ hHeld ?_
    ·(go_simp;(try with_reducible rfl))
    try simp only [Act.put,List.setIfInBounds_toArray,List.set_cons_zero,List.set_cons_succ]
    refine' wpAnyH_take (i:=16) (oi:=⟨some 96,_,_,_,_,_⟩) (v:=_) rfl (by kernel_rfl) (by kernel_rfl) (by kernel_rfl) (fun _ _ _ h=>h) (Or.inl ⟨by rfl,?_⟩) hHeld ?_
    rotate_left
    ·(intro w' hSw;(try dsimp only at hSw);go_simp;(try with_reducible rfl))
    try simp only [Act.put,List.setIfInBounds_toArray,List.set_cons_zero,List.set_cons_succ]
    refine wpAnyH_ready (rs:=[14]) (by kernel_rfl) (by simp) ?_
    refine AllReadyH.cons (i:=14) rfl (fun K hK=> ?_) AllReadyH.nil
    go_simp
    try go_wp2_with fail
    refine hK.out _ _ ?_ (fun hHeld=> ?_)
    ·exact (Ext.alloc (Ext.refl w3) _).drew.keep k1
    clear hK K
    try simp only [Act.put,List.setIfInBounds_toArray,List.set_cons_zero,List.set_cons_succ]
    refine' wpAnyH_take (i:=15) (oi:=⟨some 95,_,_,_,_,_⟩) (v:=_) rfl (by kernel_rfl) (by kernel_rfl) (by kernel_rfl) (fun _ _ _ h=>h) (Or.inl ⟨by rfl,?_⟩) hHeld ?_
    rotate_left
    ·(intro w' hSw;(try dsimp only at hSw);go_simp;(try with_reducible rfl))
    try simp only [Act.put,List.setIfInBounds_toArray,List.set_cons_zero,List.set_cons_succ]
    refine wpAnyH_done (by kernel_rfl) ?_ _
    clear hHeld k1 f1 hgz1 HMN
    have hb4:Blk ((w3.alloc (.cells #[.int .i64 (k:Int),.int .i64 id,.int .i64 (ms.length:Int),.int .i64 m] 3)).drew) w3.heap.size 3 #[.int .i64 (k:Int),.int .i64 id,.int .i64 (ms.length:Int),.int .i64 m]:=(Blk.new _ _ _).drew
    have hx4:Ext w3 ((w3.alloc (.cells #[.int .i64 (k:Int),.int .i64 id,.int .i64 (ms.length:Int),.int .i64 m] 3)).drew):=(Ext.alloc (Ext.refl w3) _).drew
    generalize (w3.alloc (.cells #[.int .i64 (k:Int),.int .i64 id,.int .i64 (ms.length:Int),.int .i64 m] 3)).drew=w4 at *
    generalize w3.heap.size=nb at *
    have HB4:=Lib.hid hb4
    have HGP4:=Lib.hid (HGP.out.keep hx4)
    have HW4:=Lib.hid (HW.out.keep hx4)
    have HX4:=Lib.hid (HX3.out.trans hx4)
    clear hb4 hx4 HGP HW HX3
    go_wp2_with fail
    generalize wr=wp at *
    go_loopw [96] (fun s96 wq=>∃j:Nat,j≤4∧s96= .int .i64 (j:Int)∧Ext w4 wq) (fun s96 _=>4-(intOf s96).toNat)
    case atStart=>exact ⟨0,by decide,rfl,Ext.refl _⟩
    case round=>
     obtain ⟨j,hj,rfl,hxq⟩:=hrel
     have HXQ:=Lib.hid hxq
     clear hxq
     by_cases hlj:j<4
     ·have hj1:(j:Int)<4:=by omega
      have hj2:decide ((j:Int)<4)=true:=decide_eq_true hj1
      have hwj:IntKind.i64.wrap ((j:Int)+1)=(j:Int)+1:=IntWalk.i64_in _ (by omega)
      obtain ⟨x,hcx⟩:∃x:Int,wr.cell? ⟨nb,j,none⟩=some (.int .i64 x):=by
       have hb:=HB4.out.ext HXQ.out
       rcases (show j=0∨j=1∨j=2∨j=3 by omega) with rfl|rfl|rfl|rfl
       ·exact ⟨_,hb.cell 0⟩
       ·exact ⟨_,hb.cell 1⟩
       ·exact ⟨_,hb.cell 2⟩
       ·exact ⟨_,hb.cell 3⟩
      have HEA:=Lib.hid (gexpr_any _ g b wr ms nv (HGP4.out.keep HXQ.out) x)
      have HEB:=Lib.hid (fun W (hx:Ext wr W)=>rexprG_any _ gr W ms _ (HW4.out.keep (HXQ.out.trans hx)) x)
      go_wp2_with fail
      refine HEA.out.mono ?_
      rintro e w5 ⟨v5,L,cc,rfl,hr5,he5,hl5,hx5⟩
      have HR5:=Lib.hid hr5
      have HX5:=Lib.hid hx5
      clear hr5 hx5 HEA hcx
      go_wp2_with fail
      refine (HEB.out _ HX5.out).mono ?_
      rintro e w6 ⟨v6,L',cc',rfl,hr6,he6,hl6,hx6⟩
      obtain ⟨e1,e2⟩:=ExprG.uniq he5 he6
      subst e1
      subst e2
      have HSD:=Lib.hid (rsameD_any w6 _ _ L L (HR5.out.ext hx6) hr6 (by omega) (by omega))
      have HX6:=Lib.hid ((HXQ.out.trans HX5.out).trans hx6)
      clear HR5 HEB hr6 hx6 he5 he6 hl5 hl6 HX5
      go_wp2_with fail
      refine HSD.out.mono ?_
      rintro e w7 ⟨rb,rfl,hiff,hd7⟩
      have hrb:rb=true:=hiff.2 rfl
      subst hrb
      have HX7:=Lib.hid (HX6.out.trans hd7.ext)
      clear hiff hd7 HX6 HSD
      go_wp2_with fail
      go_roundw
      ·exact ⟨j+1,hlj,by go_num,HX7.out⟩
      ·simp only [intOf];omega
     ·have hj1:¬((j:Int)<4):=by omega
      have hj2:decide ((j:Int)<4)=false:=decide_eq_false hj1
      have HSA:=Lib.hid (same21_any _ g b _ gr wr ms nv _ (HGP4.out.keep HXQ.out) (HW4.out.keep HXQ.out))
      go_wp2_with fail
      refine HSA.out.mono ?_
      rintro e w5 ⟨rfl,hx5⟩
      have HX5:=Lib.hid ((HX4.out.trans HXQ.out).trans hx5)
      go_wp2_with fail
      go_ret
      exact ⟨rfl,HX5.out⟩
end Big
end Go.Proofs.YtaccjdbbkmhanaaGreatDoor
namespace Go.Proofs.YtaccjdbbkmhanaaGreatDoor
open Go.ChangeShapes Go.WideShapes Go.ChangeAt Go.RowKit
section
variable {H:Type} {enc:TypeId × Value→H} {P:Program}
theorem trodAll_stays (hl:laidOutB P=true) {W W':World} (hb:Big.Ext W W'):∀(ts:List TypeId) (vs:List Value) (ds:List (DataW H)) (ps:List MemPlace),
  (∀t∈ts,P.readableRec t=true∧t<P.types.size)→DataW.TrodAll enc P W 0 (fun _=>true) true ts vs ds ps→(∀x∈ps,x.block<W.heap.size)→
  DataW.TrodAll enc P W' 0 (fun b=>decide (b<W.heap.size)) true ts vs ds ps
 |[],vs,ds,ps,_,h,_=>by
  obtain ⟨rfl,rfl,rfl⟩:=trodAll_nil h
  exact trodAll_mk0
 |t::ts,vs,ds,ps,ht,h,hlt=>by
  obtain ⟨v,vs',d,ds',p,q,rfl,rfl,rfl,h1,h2⟩:=trodAll_cons h
  exact trodAll_cons_mk (Below.trod hl (ht t (by simp)).1 (ht t (by simp)).2 h1 hb (fun x hx=>hlt x (List.mem_append_left _ hx)))
   (trodAll_stays hl hb ts vs' ds' q (fun t' h'=>ht t' (by simp [h'])) h2 (fun x hx=>hlt x (List.mem_append_right _ hx)))
theorem post_true {f:Func} {s:ChangeSpec} {W W':World} {args:Array Value} {ds gs:List (DataW H)} {before:List MemPlace} {tb:TypeId} (hl:laidOutB P=true)
  (hts:(f.params.toList.all fun t=>P.readableRec t && decide (t<P.types.size))=true) (hv:s.vars=[]) (hr:f.resultTypes= #[tb]) (htb:P.underlying tb=some .bool)
  (hW:DataW.Whole enc P f.params.toList s.vars false W args.toList ds gs before) (hfn:s.fn H ds={ results:=[.lit (.bool true)],args:=ds }) (hb:Big.Ext W W'):
  s.post enc P f false true false false W args (.bool true) W':=by
 have hlt:=hW.lt
 have hW':=hW
 obtain ⟨p,q,hA,hV,rfl,hfz,hnd⟩:=hW
 rw [hv] at hV
 obtain ⟨rfl,rfl⟩:=trodVars_none hV
 have hfn':s.fn H (ds++[])={ results:=[.lit (.bool true)],args:=ds }:=by rw [List.append_nil];exact hfn
 refine ⟨ds,[],p++[],[],p,[],hW',?_,?_,?_,hb.frame _,fun h=>by cases h⟩
 ·rw [hfn',hr]
  exact trodAll_mk1 (shut_bool htb _)
 ·rw [hfn']
  exact trodAll_stays hl hb _ _ _ _ (fun t ht=>by
   have:=List.all_eq_true.1 hts t ht
   simpa using this) hA (fun x hx=>hlt x (by simpa using hx))
 ·rw [hfn',hv]
  rfl
end
theorem handed_and_shaped {H:Type} {enc:TypeId × Value→H} {a:Assume} {C:Checked} {os:Os} {f:FuncId} {fn:Func} {s:ChangeSpec} {conds:List PathCond} {apart fresh handsOn again:Bool} {X:World→Array Value→Prop}
  (hX:∀(w w':World) (args:Array Value),w.heap=w'.heap→X w args→X w' args)
  (own:ownKnob C.prog.godebug=none) (started:os.Started) (noInit:C.prog.inits.idxOf? f=none) (hfn:C.prog.funcs[f]? =some fn)
  (witness:∃(w:World) (tape:Tape) (i:Input),w.os=os∧(w.forCall tape i).Shaped C.prog∧i.vars=[]∧Input.okWide C.prog (w.forCall tape i) .any w.heap.size f i∧
   ((s.pre enc C.prog fn conds apart (w.forCall tape i).memory i.args∧X (w.forCall tape i).memory i.args)∧sizedMet enc C.prog fn (OpenSpec.ofChange s) apart (w.forCall tape i).memory i.args)∧a.holds C.prog (lone (Frame.enter C.prog f i.args .normal) [] (w.forCall tape i)))
  (contract:∀(W:World) (base:Nat) (args:Array Value) (ds gs:List (DataW H)) (before:List MemPlace),
   (∀(j:Nat) t v,fn.params[j]? =some t→args[j]? =some v→Value.okWide C.prog W .any base t v)→
   DataW.Whole enc C.prog fn.params.toList s.vars apart W args.toList ds gs before→
   (DataW.weightsEach C.prog (fn.params.toList++s.plain.varTypes C.prog) (ds++gs)).all (·≤reachBytes)=true→X W args→W.ShapedOpen C.prog→
   Calls C.prog f args W fun e W'=>∃v,e= .returned v∧s.post enc C.prog fn apart fresh handsOn again W args v W'):
  ReturnsInHanded a C os f .any (fun w args=>(s.pre enc C.prog fn conds apart w args∧X w args)∧sizedMet enc C.prog fn (OpenSpec.ofChange s) apart w args) (s.post enc C.prog fn apart fresh handsOn again):=by
 refine returnsInHanded_of_calls own started noInit witness ?_
 intro w tape i _ hsh _ hok hpre hholds
 obtain ⟨_,_,_,fn',hfn',_,_,_,_,hval⟩:=hok
 have e:fn'=fn:=Option.some.inj (hfn'.symm.trans hfn)
 subst e
 obtain ⟨⟨⟨ds,gs,before,hw,hc⟩,hx⟩,hz⟩:=hpre
 have hw':=DataW.Whole.of_heap (w':=w.forCall tape i) (by rfl) hw
 refine (contract (w.forCall tape i) w.heap.size i.args ds gs before hval hw' (hz.weights hw) (hX _ _ _ (by rfl) hx) hsh).mono fun e W' ⟨v,he,hp⟩=> ?_
 subst he
 exact ChangeSpec.post_blind hp
theorem laid_out:laidOutB Tryz.prog=true:=by kernel_rfl
theorem own:ownKnob Tryz.prog.godebug=none:=by kernel_rfl
section
variable {P:Program} {W:World}
end
section
variable {H:Type} {enc:TypeId × Value→H} {W:World} {fuel:Nat} {v:Value} {y:DataW H × List MemPlace}
end
section
variable {H:Type} {enc:TypeId × Value→H} {W:World} {v:Value} {d:DataW H} {p:List MemPlace} {r:Reach} {b0:Nat}
end
end Go.Proofs.YtaccjdbbkmhanaaGreatDoor
namespace Go.Proofs.YtaccjdbbkmhanaaGreatDoor
open Go.ChangeShapes Go.WideShapes Go.ChangeAt Go.RowKit
theorem cellsOf_i64:Tryz.prog.cellsOf 3=1:=by kernel_rfl
section
variable {H:Type} {enc:TypeId × Value→H} {W:World} {v:Value} {d:DataW H} {p:List MemPlace} {r:Reach} {b0:Nat}
theorem nums_of_trod {fuel:Nat} {y:DataW H × List MemPlace} (h:DataW.trod enc Tryz.prog W 0 (fun _=>true) true fuel 22 [v]=some y):∃xs,Big.ArrI W v xs:=by
 rcases open_ints Tryz.underlying22 Tryz.underlying3 cellsOf_i64 h with ⟨hv,_⟩|⟨a,len,cap,zs,hv,_,hl,hm,hz,_,hc,hw⟩
 ·injection hv with hv
  subst hv
  exact ⟨[],⟨(fun x hx=>by cases hx),Big.RArr.none_ W⟩⟩
 ·injection hv with hv
  subst hv
  simp only [if_true] at hz
  refine ⟨zs.take len,fun x hx=>bounds_i64 (hw x (List.mem_of_mem_take hx)),some a,cap,by simp;omega,by simp;omega,hm,fun hp=> ?_⟩
  simp only [List.length_map,List.length_take] at hp
  obtain ⟨b,off,rfl,hcell⟩:=ints_at hc (by omega)
  have h0:=hcell 0 (by omega)
  refine ⟨b,off,rfl,World.block_lt_of_cell? W _ h0,fun j u hj=> ?_⟩
  rw [List.getElem?_map] at hj
  have hjl:j<len:=by
   rcases Nat.lt_or_ge j len with h|h
   ·exact h
   ·rw [List.getElem?_eq_none (by simp;omega)] at hj;cases hj
  have hj2:j<zs.length:=by omega
  rw [List.getElem?_take_of_lt hjl,List.getElem?_eq_getElem hj2] at hj
  injection hj with hj
  subst hj
  rw [hcell j (by omega)]
  have e1:zs.getD j 0=zs[j]:=by rw [List.getD_eq_getElem?_getD,List.getElem?_eq_getElem hj2];rfl
  rw [e1]
  rfl
set_option maxRecDepth 100000 in
theorem open_nums (hv:Value.okWide Tryz.prog W r b0 22 v) (h:DataW.Trod enc Tryz.prog W 0 (fun _=>true) true 22 v d p):∃xs,Big.ArrI W v xs:=by
 obtain ⟨a,len,cap,rfl⟩:=okWide_slice Tryz.underlying22 hv
 obtain ⟨fuel,hf⟩:=h
 obtain ⟨xs,hxs⟩:=nums_of_trod (by simpa [Value.cells] using hf)
 exact ⟨xs,hxs⟩
end
end Go.Proofs.YtaccjdbbkmhanaaGreatDoor
