import Derived.Test.YtaccjdbbkmhanaaGreatDoorM32
import Derived.Test.YtaccjdbbkmhanaaGreatDoorM29
import Derived.Test.YtaccjdbbkmhanaaGreatDoorM21
import Derived.Test.YtaccjdbbkmhanaaGreatDoorM31
import Derived.Lib.SlicesCompact
import Derived.Test.YtaccjdbbkmhanaaGreatDoorM20
namespace Go.Proofs.YtaccjdbbkmhanaaGreatDoor
namespace Big
open Go.RowKit
set_option maxHeartbeats 2000000 in
set_option maxRecDepth 100000 in
theorem rparse_any (w:World) (s:List UInt8) (hm:MaxV w):Calls Tryz.prog 25 #[str s] w (ParseP w s):=by
 have HSC:=Lib.hid (rscan_any w s hm)
 have HM:=Lib.hid hm
 have HFI:=Lib.hid (scanT_fine s)
 have hll:=scanT_len s
 have HPR:Hid (parseR s=if (scanT s).2.2≠0 then (none,(scanT s).2.1,(scanT s).2.2)
  else if (pSum (scanT s).1 ((scanT s).1.length+1) 0).2<(scanT s).1.length then (none,((scanT s).1.getD (pSum (scanT s).1 ((scanT s).1.length+1) 0).2 ⟨0,0,[]⟩).at_,6)
  else match (pSum (scanT s).1 ((scanT s).1.length+1) 0).1 with
   |none=>(none,s.length,6)
   |some x=>if x.big=false∧x.size≤200∧x.depth≤40 then (some x,s.length,0) else (none,0,7)):=Lib.hid rfl
 unfold ScanRes at HSC
 unfold ParseP
 generalize parseR s=R at *
 generalize (scanT s).2.1=sk at *
 generalize (scanT s).2.2=se at *
 generalize (scanT s).1=ts at *
 clear hm
 by_cases he0:se=0
 ·subst he0
  have hred:(if (0:Nat)≠0 then ((none:Option Ex),sk,(0:Nat)) else if (pSum ts (ts.length+1) 0).2<ts.length then (none,(ts.getD (pSum ts (ts.length+1) 0).2 ⟨0,0,[]⟩).at_,6) else match (pSum ts (ts.length+1) 0).1 with|none=>(none,s.length,6)|some x=>if x.big=false∧x.size≤200∧x.depth≤40 then (some x,s.length,0) else (none,0,7))=(if (pSum ts (ts.length+1) 0).2<ts.length then (none,(ts.getD (pSum ts (ts.length+1) 0).2 ⟨0,0,[]⟩).at_,6) else match (pSum ts (ts.length+1) 0).1 with|none=>(none,s.length,6)|some x=>if x.big=false∧x.size≤200∧x.depth≤40 then (some x,s.length,0) else (none,0,7)):=by rw [if_neg (by simp)]
  have HPR2:=Lib.hid (HPR.out.trans hred)
  clear HPR hred
  have hwell:=pSum_well HFI.out (ts.length+1)
  have hgood:=pSum_good ts (ts.length+1) 0 (Nat.zero_le _)
  have hz:(((0:Nat):Int))=0:=rfl
  rw [hz] at HSC
  clear hz
  obtain ⟨n,hn⟩:∃n,n=ts.length:=⟨_,rfl⟩
  have HN:=Lib.hid hn
  rw [←hn] at HSC
  clear hn
  go_enter Tryz.func25,Tryz.ntmps25
  go_wp2_with fail
  refine HSC.out.mono ?_
  rintro e w1 ⟨v1,rfl,hr1,hx1⟩
  have htr:TokRow w1 v1 ts:=TokRow.of (by rw [HN.out] at hr1;exact hr1)
  obtain ⟨A1,c1,rfl⟩:=ownsRow_shape hr1
  obtain ⟨w2,hw2⟩:∃w2,w2=w1.alloc (.cells #[.slice A1 n c1,.int .i64 0,.bool false,.slice none 0 0,.bool false] 90):=⟨_,rfl⟩
  have hx12:Ext w1 w2:=by rw [hw2];exact (Ext.refl w1).alloc _
  have HX2:=Lib.hid (hx1.trans hx12)
  have HMW:=Lib.hid (HM.out.ext (hx1.trans hx12))
  have hrd:RdR w1.heap.size w2 ts 0 false [] false (.slice A1 n c1) (.slice none 0 0):=⟨by rw [hw2];exact Blk.new w1 _ _,OwnNd.nil _ _,(TokAt.of htr).below hx12,Nat.zero_le _,Nat.zero_le _,hll⟩
  have HRD:=Lib.hid hrd
  have HTA:=Lib.hid ((TokAt.of htr).below hx12)
  have HSUM:=Lib.hid (rsum_any w1.heap.size ts (.slice A1 n c1) HFI.out (ts.length+1) 0 (by omega) w2 [] false (.slice none 0 0) hrd)
  have HG1:Hid (w.heap.size≤w1.heap.size):=Lib.hid hx1.size
  clear hr1 hx1 htr hx12 hrd
  go_upto_region 5 with fail
  rw [←hw2]
  clear hw2
  generalize w1.heap.size=g at *
  go_wp2_with fail
  refine HSUM.out.mono ?_
  intro e w3 hpost
  obtain ⟨r,hr⟩:∃r,pSum ts (ts.length+1) 0=r:=⟨_,rfl⟩
  rw [hr] at hgood
  have HR:=Lib.hid HPR2.out
  rw [hr] at HR
  have hall:∀b:Nat,b<ts.length→Hid (∃A:Addr,True):=fun _ _=>Lib.hid ⟨⟨0,0,none⟩,trivial⟩
  clear hall
  obtain ⟨_|x,b⟩:=r
  ·obtain ⟨rfl,nv1,ns1,lg1,hrd,hk⟩:=hpost.none_ hr
   have hbw:=hk.below (ns:=[]) (OwnNd.nil _ _) (Nat.le_of_lt HRD.out.blk.lt)
   have HX3:Hid (Ext w w3):=Lib.hid (HX2.out.more (Below.mono hbw HG1.out))
   obtain ⟨⟨k0,k1,k2,k3,k4⟩,_,hg3⟩:=hrd.blk.five'
   obtain ⟨A9,c9,he9,hc9⟩:=HTA.out.below hbw
   injection he9 with he1 he2 he3
   subst he1
   clear he2 he3
   simp only at HR
   by_cases hb:b<ts.length
   ·obtain ⟨bk,hbk,_,_,hcx⟩:=hc9 (by omega)
    clear hc9
    subst hbk
    have q1:=(hcx b hb).2.1
    have hta:(ts.getD b ⟨0,0,[]⟩).at_=ts[b].at_:=by rw [List.getD_eq_getElem?_getD,List.getElem?_eq_getElem hb];rfl
    have HRR:Hid (R=(none,ts[b].at_,6)):=Lib.hid (by rw [HR.out,if_pos hb,hta])
    have hbn:b<n:=by rw [HN.out];exact hb
    have z1:decide (b<n)=true:=decide_eq_true hbn
    generalize ts[b].at_=ta at *
    clear hpost hr hrd hk hbw hcx hta HR HPR2 hb hgood
    go_wp2_with fail
    go_region
    go_wp2_with fail
    go_ret3
    rw [HRR.out]
    exact ⟨_,rfl,HX3.out.trans (Ext.refl w3).drew,RNd.nil _⟩
   ·have HRR:Hid (R=(none,s.length,6)):=Lib.hid (by rw [HR.out,if_neg hb])
    have hbn:¬b<n:=by rw [HN.out];exact hb
    have z1:decide (b<n)=false:=decide_eq_false hbn
    clear hpost hr hrd hk hbw hc9 HR HPR2 hb hgood
    go_wp2_with fail
    go_ret3
    rw [HRR.out]
    exact ⟨_,rfl,HX3.out,RNd.nil _⟩
  ·obtain ⟨rfl,nv1,hrd,hk⟩:=hpost.some_ hr
   rw [Bool.false_or] at hrd
   have hw:=hwell _ _ _ hr
   have hbw:=hk.below (ns:=[]) (OwnNd.nil _ _) (Nat.le_of_lt HRD.out.blk.lt)
   have HX3:Hid (Ext w w3):=Lib.hid (HX2.out.more (Below.mono hbw HG1.out))
   obtain ⟨⟨k0,k1,k2,k3,k4⟩,_,hg3⟩:=hrd.blk.five'
   obtain ⟨A9,c9,he9,hc9⟩:=HTA.out.below hbw
   injection he9 with he1 he2 he3
   subst he1
   clear he2 he3
   simp only at HR
   by_cases hb:b<ts.length
   ·obtain ⟨bk,hbk,_,_,hcx⟩:=hc9 (by omega)
    clear hc9
    subst hbk
    have q1:=(hcx b hb).2.1
    have hta:(ts.getD b ⟨0,0,[]⟩).at_=ts[b].at_:=by rw [List.getD_eq_getElem?_getD,List.getElem?_eq_getElem hb];rfl
    have HRR:Hid (R=(none,ts[b].at_,6)):=Lib.hid (by rw [HR.out,if_pos hb,hta])
    have hbn:b<n:=by rw [HN.out];exact hb
    have z1:decide (b<n)=true:=decide_eq_true hbn
    generalize ts[b].at_=ta at *
    clear hpost hr hrd hk hbw hcx hta HR HPR2 hb hgood
    go_wp2_with fail
    go_region
    go_wp2_with fail
    go_ret3
    rw [HRR.out]
    exact ⟨_,rfl,HX3.out.trans (Ext.refl w3).drew,RNd.nil _⟩
   ·have hbn:¬b<n:=by rw [HN.out];exact hb
    have z1:decide (b<n)=false:=decide_eq_false hbn
    have hrow:=hrd.row
    have hfew:=hrd.few
    have hble:=hrd.le
    rw [List.nil_append,List.length_nil] at hrow hfew
    have HRN:=Lib.hid hrow.read
    cases hbg:x.big
    ·have hgd:=hw.good hbg
     have hvp:=validB_flat x hgd
     have HPV:=Lib.hid (valid_any w3 nv1 (flat 0 x) hrow.read (by omega) (flat_text_well x hw 0))
     have HRR:Hid (R=if validB (flat 0 x)=true then (some x,s.length,0) else (none,0,7)):=Lib.hid (by
      rw [HR.out,if_neg hb,hvp,hbg]
      simp)
     rw [hbg] at k4
     obtain ⟨A2,c2,m2,rfl,hm2⟩:=hrow.shape3
     generalize validB (flat 0 x)=vb at *
     clear hpost hr hrd hk hbw hc9 HR HPR2 hb hgood hrow hfew hvp hm2 hbg
     cases vb
     ·go_wp2_with fail
      refine HPV.out.mono ?_
      rintro e w4 ⟨rfl,hx4⟩
      have HX4:=Lib.hid (HX3.out.trans hx4)
      clear hx4
      go_wp2_with fail
      go_ret3
      rw [HRR.out]
      exact ⟨_,rfl,HX4.out,RNd.nil _⟩
     ·go_wp2_with fail
      refine HPV.out.mono ?_
      rintro e w4 ⟨rfl,hx4⟩
      have HX4:=Lib.hid (HX3.out.trans hx4)
      have HRN4:=Lib.hid (HRN.out.ext hx4)
      have hj2:=(hx4.cell (b:=g) (o:=3) hg3).trans k3
      clear hx4
      go_wp2_with fail
      go_ret3
      rw [HRR.out]
      exact ⟨_,rfl,HX4.out,HRN4.out⟩
    ·have HRR:Hid (R=(none,0,7)):=Lib.hid (by
      rw [HR.out,if_neg hb,hbg]
      simp)
     rw [hbg] at k4
     clear hpost hr hrd hk hbw hc9 HR HPR2 hb hgood hrow hfew hbg HRN
     go_wp2_with fail
     go_ret3
     rw [HRR.out]
     exact ⟨_,rfl,HX3.out,RNd.nil _⟩
 ·have hse:((se:Int) != 0)=true:=by rw [bne_iff_ne];omega
  have HR0:Hid (R=(none,sk,se)):=Lib.hid (by rw [HPR.out,if_pos he0])
  clear HPR HFI
  obtain ⟨sz,hsz⟩:∃sz:Int,sz=(se:Int):=⟨_,rfl⟩
  rw [←hsz] at hse HSC
  have HSZ:=Lib.hid hsz
  clear hsz he0
  go_enter Tryz.func25,Tryz.ntmps25
  go_wp2_with fail
  refine HSC.out.mono ?_
  rintro e w1 ⟨v1,rfl,hr1,hx1⟩
  obtain ⟨A1,c1,rfl⟩:=ownsRow_shape hr1
  have HX1:=Lib.hid hx1
  clear hr1 hx1
  go_wp2_with fail
  go_ret3
  rw [HR0.out]
  exact ⟨_,by rw [HSZ.out];rfl,HX1.out,RNd.nil _⟩
end Big
end Go.Proofs.YtaccjdbbkmhanaaGreatDoor
namespace Go.Proofs.YtaccjdbbkmhanaaGreatDoor
namespace Big
open Go.RowKit
theorem aw21_0:parseR [120,32,43,32,120]=(some (.bin 6 (.leaf 2 [120]) (.leaf 2 [120])),5,0):=by kernel_rfl
theorem aw21_1:parseR [120]=(some (.leaf 2 [120]),1,0):=by kernel_rfl
def aw21L:List Nd:=[⟨2,0,0,0,[120]⟩,⟨6,0,0,0,[]⟩]
theorem aw21_2:addG [] (.bin 6 (.leaf 2 [120]) (.leaf 2 [120]))=(1,aw21L):=by decide
theorem aw21_3:addG aw21L (.leaf 2 [120])=(0,aw21L):=by decide
theorem good_x:(Ex.leaf 2 [120]).Good:= .inr (.inl ⟨rfl,by decide⟩)
theorem good_xx:(Ex.bin 6 (.leaf 2 [120]) (.leaf 2 [120])).Good:=⟨⟨by decide,by decide⟩,good_x,good_x⟩
set_option maxHeartbeats 4000000 in
set_option maxRecDepth 100000 in
theorem awake21_any (w:World) (hm:MaxV w):Calls Tryz.prog 6 #[] w fun e w'=>e= .returned (.bool true)∧Ext w w':=by
 have HM:=Lib.hid hm
 have HNW:=Lib.hid (gnew_any w hm)
 have HP0:=Lib.hid (fun W h=>rparse_any W [120,32,43,32,120] h)
 have HP1:=Lib.hid (fun W h=>rparse_any W [120] h)
 unfold ParseP at HP0 HP1
 rw [aw21_0] at HP0
 rw [aw21_1] at HP1
 clear hm
 go_enter Tryz.func6,Tryz.ntmps6
 go_wp2_with fail
 refine HNW.out.mono ?_
 rintro e w1 ⟨g,b,rfl,hg1,hx1⟩
 have HX1:=Lib.hid hx1
 have HG1:=Lib.hid hg1
 clear hg1 hx1
 go_wp2_with fail
 refine (HP0.out w1 (HM.out.ext HX1.out)).mono ?_
 rintro e w2 ⟨v2,rfl,hx2,hr2⟩
 have HX2:=Lib.hid (HX1.out.trans hx2)
 have HG2:=Lib.hid (HG1.out.keep hx2)
 have HR2:=Lib.hid hr2
 clear hx2 hr2
 go_wp2_with fail
 refine (HP1.out w2 (HM.out.ext HX2.out)).mono ?_
 rintro e w3 ⟨v3,rfl,hx3,hr3⟩
 have HX3:=Lib.hid (HX2.out.trans hx3)
 have HG3:=Lib.hid (HG2.out.keep hx3)
 have HF2:=Lib.hid (NdFar.none (HR2.out.ext hx3) HG3.out)
 have HF3:=Lib.hid (NdFar.none hr3 HG3.out)
 clear hx3 hr3
 go_wp2_with fail
 refine (add_graph w.heap.size g b w3 [] (.slice none 0 0) v2 (.bin 6 (.leaf 2 [120]) (.leaf 2 [120])) HG3.out HF2.out good_xx (by decide) (by decide) (HM.out.ext HX3.out) (by decide)).mono ?_
 rintro r w4 ⟨nv4,rfl,hk4,hg4⟩
 rw [aw21_2] at hg4 ⊢
 have HF4:=Lib.hid (HF3.out.keep hk4)
 have HM4:Hid (MaxV w4):=Lib.hid ((HM.out.ext HX3.out).below (hk4.below HG3.out) HG3.out.low)
 have HX4:Hid (Ext w w4):=Lib.hid (HX3.out.more (hk4.below HG3.out))
 have HG4:=Lib.hid hg4
 clear hk4 hg4
 go_wp2_with fail
 refine (add_graph w.heap.size g b w4 aw21L nv4 v3 (.leaf 2 [120]) HG4.out HF4.out good_x (by decide) (by decide) HM4.out (by decide)).mono ?_
 rintro r w5 ⟨nv5,rfl,hk5,hg5⟩
 rw [aw21_3] at hg5 ⊢
 have HX5:Hid (Ext w w5):=Lib.hid (HX4.out.more (hk5.below HG4.out))
 have HG5:=Lib.hid hg5
 clear hk5 hg5
 go_wp2_with fail
 refine (put_bad w.heap.size g b w5 aw21L nv5 HG5.out 7 (by decide)).mono ?_
 rintro r w6 ⟨rfl,hx6⟩
 have HX6:=Lib.hid (HX5.out.trans hx6)
 have HGL:=Lib.hid (glen_any w.heap.size g b w6 aw21L nv5 (HG5.out.keep hx6))
 clear hx6
 go_wp2_with fail
 refine HGL.out.mono ?_
 rintro r w7 ⟨rfl,rfl⟩
 go_wp2_with fail
 go_ret
 exact ⟨rfl,HX6.out⟩
end Big
end Go.Proofs.YtaccjdbbkmhanaaGreatDoor
namespace Go.Proofs.YtaccjdbbkmhanaaGreatDoor
namespace Big
abbrev Tx:=List UInt8
theorem tx_irrefl (a:Tx):¬a<a:=List.lt_irrefl a
theorem tx_trans {a b c:Tx} (h:a<b) (h':b<c):a<c:=List.lt_trans h h'
theorem tx_asymm {a b:Tx} (h:a<b):¬b<a:=fun h'=>tx_irrefl a (tx_trans h h')
theorem tx_lt_of_le_ne {a b:Tx} (h:a≤b) (hne:a≠b):a<b:=by
 rcases Decidable.em (a<b) with h1|h1
 ·exact h1
 ·exact absurd (List.le_antisymm h (List.not_lt.1 h1)) hne
def Asc (l:List Tx):Prop:=l.Pairwise (·<·)
theorem asc_uniq:∀{l m:List Tx},Asc l→Asc m→(∀x,x∈l↔x∈m)→l=m
 |[],[],_,_,_=>rfl
 |[],y::m,_,_,h=>absurd ((h y).2 (by simp)) (by simp)
 |x::l,[],_,_,h=>absurd ((h x).1 (by simp)) (by simp)
 |x::l,y::m,hl,hm,h=>by
  unfold Asc at hl hm
  rw [List.pairwise_cons] at hl hm
  have e:x=y:=by
   rcases List.mem_cons.1 ((h x).1 (by simp)) with e|e
   ·exact e
   ·rcases List.mem_cons.1 ((h y).2 (by simp)) with e'|e'
    ·exact e'.symm
    ·exact absurd (hm.1 x e) (tx_asymm (hl.1 y e'))
  subst e
  refine congrArg (x::·) (asc_uniq hl.2 hm.2 fun z=>⟨fun hz=> ?_,fun hz=> ?_⟩)
  ·rcases List.mem_cons.1 ((h z).1 (List.mem_cons_of_mem _ hz)) with e|e
   ·exact absurd (hl.1 z hz) (by rw [e];exact tx_irrefl x)
   ·exact e
  ·rcases List.mem_cons.1 ((h z).2 (List.mem_cons_of_mem _ hz)) with e|e
   ·exact absurd (hm.1 z hz) (by rw [e];exact tx_irrefl x)
   ·exact e
def insS (s:Tx):List Tx→List Tx
 |[]=>[s]
 |x::xs=>if x<s then x::insS s xs else if x=s then x::xs else s::x::xs
theorem mem_insS {s z:Tx}:∀{l:List Tx},z∈insS s l↔z=s∨z∈l
 |[]=>by simp [insS]
 |x::xs=>by
  unfold insS
  split
  ·rw [List.mem_cons,mem_insS,List.mem_cons]
   constructor
   ·rintro (h|h|h)<;>simp [h]
   ·rintro (h|h|h)<;>simp [h]
  ·split
   ·rename_i h
    subst h
    constructor
    ·intro h;exact .inr h
    ·rintro (h|h)
     ·rw [h];simp
     ·exact h
   ·simp [List.mem_cons]
theorem asc_insS {s:Tx}:∀{l:List Tx},Asc l→Asc (insS s l)
 |[],_=>by simp [insS,Asc]
 |x::xs,h=>by
  unfold Asc at h
  rw [List.pairwise_cons] at h
  unfold insS
  split
  ·rename_i hx
   unfold Asc
   rw [List.pairwise_cons]
   refine ⟨fun z hz=> ?_,asc_insS h.2⟩
   rcases mem_insS.1 hz with rfl|hz
   ·exact hx
   ·exact h.1 z hz
  ·split
   ·unfold Asc
    rw [List.pairwise_cons]
    exact h
   ·rename_i h1 h2
    have hlt:s<x:=tx_lt_of_le_ne (List.not_lt.1 h1) (fun e=>h2 e.symm)
    unfold Asc
    rw [List.pairwise_cons,List.pairwise_cons]
    refine ⟨fun z hz=> ?_,h⟩
    rcases List.mem_cons.1 hz with rfl|hz
    ·exact hlt
    ·exact tx_trans hlt (h.1 z hz)
def sortS (l:List Tx):List Tx:=l.foldl (fun out s=>insS s out) []
theorem foldl_ins {l:List Tx}:∀{out:List Tx},Asc out→Asc (l.foldl (fun out s=>insS s out) out)∧∀z,z∈l.foldl (fun out s=>insS s out) out↔z∈l∨z∈out:=by
 induction l with
 |nil=>intro out h;exact ⟨h,fun z=>by simp⟩
 |cons x l ih=>
  intro out h
  obtain ⟨h1,h2⟩:=ih (asc_insS (s:=x) h)
  refine ⟨h1,fun z=> ?_⟩
  rw [List.foldl_cons,h2,mem_insS,List.mem_cons]
  constructor
  ·rintro (h|h|h)<;>simp [h]
  ·rintro ((h|h)|h)<;>simp [h]
theorem asc_sortS (l:List Tx):Asc (sortS l):=(foldl_ins (l:=l) (out:=[]) (by simp [Asc])).1
theorem mem_sortS {l:List Tx} {z:Tx}:z∈sortS l↔z∈l:=by
 have:=(foldl_ins (l:=l) (out:=[]) (by simp [Asc])).2 z
 unfold sortS
 simpa using this
theorem sorted_merge (l:List Tx):(l.mergeSort fun x y=>decide (x≤y)).Pairwise (·≤·):=by
 have:=List.pairwise_mergeSort (le:=fun x y:Tx=>decide (x≤y)) (fun a b c h1 h2=>decide_eq_true (List.le_trans (of_decide_eq_true h1) (of_decide_eq_true h2))) (fun a b=>by
  rcases List.le_total a b with h|h
  ·simp [h]
  ·simp [h]) l
 exact this.imp fun h=>of_decide_eq_true h
end Big
end Go.Proofs.YtaccjdbbkmhanaaGreatDoor
namespace Go.Proofs.YtaccjdbbkmhanaaGreatDoor
namespace Big
def argsG (x:Nd):List Nat:=if x.kind<5 then [] else if 6≤x.kind∧x.kind≤9 then [x.a.toNat,x.b.toNat] else [x.a.toNat]
def argsAt (ns:List Nd) (i:Nat):List Nat:=match ns[i]? with
 |some x=>argsG x
 |none=>[]
theorem SoundG.args_lt {ns:List Nd} (hs:SoundG ns) {i a:Nat} (h:a∈argsAt ns i):a<i:=by
 unfold argsAt at h
 cases hx:ns[i]? with
 |none=>rw [hx] at h;cases h
 |some x=>
  rw [hx] at h
  simp only at h
  rcases hs.2 i x hx with ⟨k,t,rfl,ho⟩|⟨k,n,j,rfl,ho,hj⟩|⟨k,j,q,rfl,hk,hj,hq⟩
  ·unfold argsG at h
   rw [if_pos (by rcases ho with ⟨h,_⟩|⟨h,_⟩|⟨h,_⟩<;>simp only<;>omega)] at h
   cases h
  ·unfold argsG at h
   have:=ho.1
   rw [if_neg (by simp only;omega),if_neg (by simp only;omega)] at h
   simp only [Int.toNat_natCast,List.mem_singleton] at h
   omega
  ·unfold argsG at h
   rw [if_neg (by simp only;omega),if_pos (by simp only;omega)] at h
   simp only [Int.toNat_natCast,List.mem_cons,List.not_mem_nil,or_false] at h
   omega
inductive Reach (ns:List Nd) (i:Nat):Nat→Prop where
 |here:Reach ns i i
 |down {j a:Nat}:Reach ns i j→a∈argsAt ns j→Reach ns i a
theorem Reach.le {ns:List Nd} (hs:SoundG ns) {i j:Nat} (h:Reach ns i j):j≤i:=by
 induction h with
 |here=>exact Nat.le_refl _
 |down _ ha ih=>have:=hs.args_lt ha;omega
theorem Reach.trans {ns:List Nd} {i j q:Nat} (h:Reach ns i j) (k:Reach ns j q):Reach ns i q:=by
 induction k with
 |here=>exact h
 |down _ ha ih=>exact ih.down ha
def setAll (F:List Bool):List Nat→List Bool
 |[]=>F
 |a::l=>setAll (F.set a true) l
theorem setAll_len (l:List Nat):∀F:List Bool,(setAll F l).length=F.length:=by
 induction l with
 |nil=>intro F;rfl
 |cons a l ih=>intro F;rw [setAll,ih,List.length_set]
theorem getD_setB (F:List Bool) (a j:Nat):(F.set a true).getD j false=(decide (j=a∧a<F.length) || F.getD j false):=by
 rw [List.getD_eq_getElem?_getD,List.getD_eq_getElem?_getD,List.getElem?_set]
 by_cases h:a=j
 ·subst h
  rw [if_pos rfl]
  by_cases hl:a<F.length
  ·simp [hl]
  ·rw [if_neg hl,List.getElem?_eq_none (by omega)]
   simp [hl]
 ·rw [if_neg h]
  simp [Ne.symm h]
theorem getD_setAll (l:List Nat):∀(F:List Bool) (j:Nat),j<F.length→(setAll F l).getD j false=(decide (j∈l) || F.getD j false):=by
 induction l with
 |nil=>intro F j _;simp [setAll]
 |cons a l ih=>
  intro F j hj
  rw [setAll,ih _ j (by rw [List.length_set];exact hj),getD_setB]
  by_cases h1:j=a
  ·subst h1;simp [hj]
  ·simp [h1]
def markG (ns:List Nd) (i:Nat) (F:List Bool):List Bool:=if F.getD i false then setAll F (argsAt ns i) else F
theorem markG_len (ns:List Nd) (i:Nat) (F:List Bool):(markG ns i F).length=F.length:=by
 unfold markG;split
 ·exact setAll_len _ _
 ·rfl
def MarkedG (ns:List Nd) (i m:Nat) (F:List Bool):Prop:=i<F.length∧F.length≤ns.length∧∀j,j<F.length→(F.getD j false=true↔j=i∨∃q,m≤q∧Reach ns i q∧j∈argsAt ns q)
theorem MarkedG.start {ns:List Nd} (hs:SoundG ns) {i:Nat} {F:List Bool} (hi:i<F.length) (hF:F.length≤ns.length) (h:∀j,j<F.length→(F.getD j false=true↔j=i)):MarkedG ns i (i+1) F:=
 ⟨hi,hF,fun j hj=>(h j hj).trans ⟨.inl,fun h=>by
  rcases h with h|⟨q,hq,hr,_⟩
  ·exact h
  ·have:=hr.le hs
   omega⟩⟩
theorem MarkedG.here {ns:List Nd} (hs:SoundG ns) {i m:Nat} {F:List Bool} (h:MarkedG ns i (m+1) F) (hm:m<F.length):F.getD m false=true↔Reach ns i m:=by
 rw [h.2.2 m hm]
 constructor
 ·rintro (rfl|⟨q,_,hr,ha⟩)
  ·exact .here
  ·exact hr.down ha
 ·intro hr
  cases hr with
  |here=>exact .inl rfl
  | @down j _ hr ha=>exact .inr ⟨j,by have:=hs.args_lt ha;omega,hr,ha⟩
theorem MarkedG.step {ns:List Nd} (hs:SoundG ns) {i m:Nat} {F:List Bool} (h:MarkedG ns i (m+1) F) (hm:m<F.length):MarkedG ns i m (markG ns m F):=by
 have hh:=h.here hs hm
 refine ⟨by rw [markG_len];exact h.1,by rw [markG_len];exact h.2.1,fun j hj=> ?_⟩
 rw [markG_len] at hj
 unfold markG
 by_cases hr:Reach ns i m
 ·rw [if_pos (hh.2 hr),getD_setAll _ _ _ hj,Bool.or_eq_true,decide_eq_true_eq,h.2.2 j hj]
  constructor
  ·rintro (ha|ha|⟨q,hq,hr2,ha⟩)
   ·exact .inr ⟨m,Nat.le_refl _,hr,ha⟩
   ·exact .inl ha
   ·exact .inr ⟨q,by omega,hr2,ha⟩
  ·rintro (ha|⟨q,hq,hr2,ha⟩)
   ·exact .inr (.inl ha)
   ·rcases Nat.eq_or_lt_of_le hq with e|e
    ·subst e;exact .inl ha
    ·exact .inr (.inr ⟨q,e,hr2,ha⟩)
 ·have hf:F.getD m false=false:=by
   cases hc:F.getD m false with
   |false=>rfl
   |true=>exact absurd (hh.1 hc) hr
  rw [hf]
  simp only [Bool.false_eq_true,if_false]
  rw [h.2.2 j hj]
  constructor
  ·rintro (ha|⟨q,hq,hr2,ha⟩)
   ·exact .inl ha
   ·exact .inr ⟨q,by omega,hr2,ha⟩
  ·rintro (ha|⟨q,hq,hr2,ha⟩)
   ·exact .inl ha
   ·rcases Nat.eq_or_lt_of_le hq with e|e
    ·subst e;exact absurd hr2 hr
    ·exact .inr ⟨q,e,hr2,ha⟩
theorem MarkedG.done {ns:List Nd} {i:Nat} {F:List Bool} (h:MarkedG ns i 0 F):∀j,j<F.length→(F.getD j false=true↔Reach ns i j):=by
 intro j hj
 rw [h.2.2 j hj]
 constructor
 ·rintro (rfl|⟨q,_,hr,ha⟩)
  ·exact .here
  ·exact hr.down ha
 ·intro hr
  cases hr with
  |here=>exact .inl rfl
  | @down q _ hr ha=>exact .inr ⟨q,Nat.zero_le _,hr,ha⟩
def NameIn (ns:List Nd) (i:Nat) (t:Tx):Prop:=∃j x,Reach ns i j∧ns[j]? =some x∧x.kind=2∧x.text=t
def namesE:Ex→List Tx
 | .leaf k t=>if k=2 then [t] else []
 | .un _ _ x=>namesE x
 | .bin _ x y=>namesE x++namesE y
theorem Reach.split {ns:List Nd} {i j:Nat}:Reach ns i j↔i=j∨∃a∈argsAt ns i,Reach ns a j:=by
 constructor
 ·intro h
  induction h with
  |here=>exact .inl rfl
  | @down p b hp hb ih=>
    rcases ih with rfl|⟨a,ha,hr⟩
    ·exact .inr ⟨b,hb,.here⟩
    ·exact .inr ⟨a,ha,hr.down hb⟩
 ·rintro (rfl|⟨a,ha,hr⟩)
  ·exact .here
  ·exact (Reach.here.down ha).trans hr
end Big
end Go.Proofs.YtaccjdbbkmhanaaGreatDoor
