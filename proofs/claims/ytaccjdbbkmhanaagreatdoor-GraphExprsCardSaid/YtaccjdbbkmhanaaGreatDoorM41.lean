import Derived.Test.YtaccjdbbkmhanaaGreatDoorM40
import Derived.Laws.EntriesVeiled
import Derived.Test.YtaccjdbbkmhanaaGreatDoorM39
import Derived.Deep.RegionHeld
namespace Go.Proofs.YtaccjdbbkmhanaaGreatDoor
namespace Big
open Go.RowKit
def ExprG (ns:List Nd) (i:Int) (L:List Nd) (c:Int):Prop:=
 if 0≤i∧i<(ns.length:Int) then ∃e:Ex,e.Good∧Rep ns i.toNat e∧((e.size≤200∧e.depth≤40∧L=flat 0 e∧c=0)∨(¬(e.size≤200∧e.depth≤40)∧L=[]∧c=7)) else L=[]∧c=1
theorem ExprG.uniq {ns:List Nd} {i:Int} {L L':List Nd} {c c':Int} (h:ExprG ns i L c) (h':ExprG ns i L' c'):L=L'∧c=c':=by
 unfold ExprG at h h'
 split at h
 ·rw [if_pos (by assumption)] at h'
  obtain ⟨e,hg,hr,h⟩:=h
  obtain ⟨e',hg',hr',h'⟩:=h'
  obtain rfl:=Rep.same hg hg' hr hr'
  rcases h with ⟨a1,a2,rfl,rfl⟩|⟨a1,rfl,rfl⟩<;>rcases h' with ⟨b1,b2,rfl,rfl⟩|⟨b1,rfl,rfl⟩
  ·exact ⟨rfl,rfl⟩
  ·exact absurd ⟨a1,a2⟩ b1
  ·exact absurd ⟨b1,b2⟩ a1
  ·exact ⟨rfl,rfl⟩
 ·rw [if_neg (by assumption)] at h'
  exact ⟨h.1.trans h'.1.symm,h.2.trans h'.2.symm⟩
theorem ExprG.ok {ns:List Nd} {i:Nat} {e:Ex} (hi:i<ns.length) (hg:e.Good) (hr:Rep ns i e) (h1:e.size≤200) (h2:e.depth≤40):ExprG ns (i:Int) (flat 0 e) 0:=by
 unfold ExprG
 rw [if_pos ⟨by omega,by omega⟩,Int.toNat_natCast]
 exact ⟨e,hg,hr,.inl ⟨h1,h2,rfl,rfl⟩⟩
theorem ExprG.big {ns:List Nd} {i:Nat} {e:Ex} (hi:i<ns.length) (hg:e.Good) (hr:Rep ns i e) (h:¬(e.size≤200∧e.depth≤40)):ExprG ns (i:Int) [] 7:=by
 unfold ExprG
 rw [if_pos ⟨by omega,by omega⟩,Int.toNat_natCast]
 exact ⟨e,hg,hr,.inr ⟨h,rfl,rfl⟩⟩
theorem ExprG.out {ns:List Nd} {i:Int} (h:i<0∨(ns.length:Int)≤i):ExprG ns i [] 1:=by
 unfold ExprG
 rw [if_neg (by omega)]
 exact ⟨rfl,rfl⟩
theorem RNd.nilG (w:World):RNd w (.slice none 0 0) []:=⟨none,0,rfl,fun h=>absurd h (by decide)⟩
def ExprPost (ns:List Nd) (i:Int) (w:World) (e:Ending) (w':World):Prop:=∃v L c,e= .returned (.tuple #[v,.int .i64 c])∧RNd w' v L∧ExprG ns i L c∧L.length≤200∧Ext w w'
set_option maxHeartbeats 8000000 in
set_option maxRecDepth 100000 in
theorem gexpr_in (B g b:Nat) (w:World) (ns:List Nd) (nv:Value) (h:GrP B g b w ns nv) (i:Nat) (hi:i<ns.length):
  Calls Tryz.prog 23 #[.pointer (some ⟨g,0,none⟩),.int .i64 (i:Int)] w (ExprPost ns (i:Int) w):=by
 obtain ⟨e,hgd,hrep⟩:=h.ok.rep i hi
 have hfew:=h.few
 have HSZ:=Lib.hid (fun W (hx:Ext w W)=>gsizes_any B g b W ns nv (h.keep hx) i hi)
 have hbg:=(bigG_take ns hi).trans (bigG_rep h.ok hgd hrep)
 have hdg:=(deepG_take ns hi).trans (deepG_rep h.ok hgd hrep)
 have hbl:=bigG_len (ns.take (i+1))
 have hdl:=deepG_len (ns.take (i+1))
 rw [List.length_take,Nat.min_eq_left (by omega)] at hbl hdl
 have HBG:=Lib.hid hbg
 have HDG:=Lib.hid hdg
 have HWR:=Lib.hid (fun bg bw bo W hw hl=>write_any B g b w ns nv h bg bw bo e i W (.slice none 0 0) [] hgd hrep hw hl)
 have HOK:=Lib.hid (fun h1 h2=>ExprG.ok hi hgd hrep h1 h2)
 have HBI:=Lib.hid (fun h1=>ExprG.big hi hgd hrep h1)
 have hsp:=e.size_pos
 obtain ⟨k0,k1,_,_,hgz⟩:=h.blk.twoG
 obtain ⟨A,c,rfl⟩:=h.row.shape
 have HB1:=Lib.hid (Blk.new w 29 #[.pointer (some ⟨g,0,none⟩)])
 have HX1:=Lib.hid ((Ext.refl w).alloc (.cells #[.pointer (some ⟨g,0,none⟩)] 29))
 obtain ⟨bg,hbg2⟩:∃bg,bg=w.heap.size:=⟨_,rfl⟩
 obtain ⟨w1,hw1⟩:∃w1,w1=w.alloc (.cells #[.pointer (some ⟨g,0,none⟩)] 29):=⟨_,rfl⟩
 rw [←hw1,←hbg2] at HB1
 rw [←hw1] at HX1
 have HGS:=Lib.hid (fun W (hx:Ext w W)=>(h.keep hx).blk.twoG)
 obtain ⟨m,hm⟩:∃m,m=i+1:=⟨_,rfl⟩
 rw [←hm] at HSZ HBG HDG hbl hdl
 have hi0:(0:Int)≤(i:Int):=by omega
 have him:(i:Int)<(m:Int):=by omega
 have hin:(i:Int)<(ns.length:Int):=by omega
 have hd0:decide ((i:Int)<0)=false:=decide_eq_false (by omega)
 have hd1:decide ((i:Int)≥(ns.length:Int))=false:=decide_eq_false (by omega)
 have hd2:decide ((ns.length:Int)≤(i:Int))=false:=decide_eq_false (by omega)
 have hd3:decide (ns.length≤i)=false:=decide_eq_false (by omega)
 clear h hgd hrep hbg hdg hi k0 k1 hgz
 go_enter Tryz.func23,Tryz.ntmps23
 go_upto_region 1 with fail
 rw [←hw1,←hbg2]
 have HBZ:Hid (w.heap.size≤bg):=Lib.hid (by omega)
 clear hw1 hbg2 hm
 obtain ⟨g0,gf0,ghz⟩:=HB1.out.oneG
 obtain ⟨k0,k1,f0,f1,hgz⟩:=HGS.out w1 HX1.out
 go_wp2_with fail
 refine (HSZ.out w1 HX1.out).mono ?_
 rintro r w2 ⟨bs,bd,rfl,hbs,hbd,hx2⟩
 have z1:=hbs.cell i
 rw [get_cellsN _ _ (by omega),HBG.out] at z1
 have z2:=hbd.cell i
 rw [get_cellsN _ _ (by omega),HDG.out] at z2
 have HX2:=Lib.hid (HX1.out.trans hx2)
 have HB2:=Lib.hid (HB1.out.ext hx2)
 clear hbs hbd hx2 HSZ g0 gf0 k0 k1 f0 f1 ghz hgz HB1 HX1
 by_cases h1:e.size≤200
 ·have e1:min e.size 201=e.size:=Nat.min_eq_left (by omega)
  rw [e1] at z1
  have hs1:decide ((e.size:Int)>200)=false:=decide_eq_false (by omega)
  have hs2:decide ((200:Int)<(e.size:Int))=false:=decide_eq_false (by omega)
  have hs3:decide (200<e.size)=false:=decide_eq_false (by omega)
  by_cases h2:e.depth≤40
  ·have ht1:decide ((e.depth:Int)>40)=false:=decide_eq_false (by omega)
   have ht2:decide ((40:Int)<(e.depth:Int))=false:=decide_eq_false (by omega)
   have ht3:decide (40<e.depth)=false:=decide_eq_false (by omega)
   have hbo4:=(Blk.new w2 25 #[.slice none 0 0]).ext ((Ext.refl _).alloc (.cells #[.nilFunc] 67))
   have hbw4:=Blk.new (w2.alloc (.cells #[.slice none 0 0] 25)) 67 #[.nilFunc]
   have hx4:=(HX2.out.alloc (.cells #[.slice none 0 0] 25)).alloc (.cells #[.nilFunc] 67)
   have hbg4:=(HB2.out.ext ((Ext.refl _).alloc (.cells #[.slice none 0 0] 25))).ext ((Ext.refl _).alloc (.cells #[.nilFunc] 67))
   rw [World.size_alloc] at hbw4
   have hbgl:=HB2.out.lt
   go_upto_region 8 with fail
   obtain ⟨w4,hw4⟩:∃w4,w4=(w2.alloc (.cells #[.slice none 0 0] 25)).alloc (.cells #[.nilFunc] 67):=⟨_,rfl⟩
   obtain ⟨bo,hbo⟩:∃bo,bo=w2.heap.size:=⟨_,rfl⟩
   obtain ⟨bw,hbw⟩:∃bw,bw=w2.heap.size+1:=⟨_,rfl⟩
   rw [←hw4,←hbo] at hbo4
   rw [←hw4,←hbw] at hbw4
   rw [←hw4] at hx4 hbg4
   rw [←hw4,←hbw,←hbo]
   have HN1:Hid (bg≠bo∧bw≠bo∧bg≠bw∧w.heap.size≤bo∧w.heap.size≤bw):=Lib.hid (by have h1:=HX2.out.size;omega)
   obtain ⟨z3,zf3,zh3⟩:=hbw4.oneG
   have hwr:WrAt w g bg bw bo (w4.setCell ⟨bw,0,none⟩ (.func (.func 48) #[] #[.pointer (some ⟨bg,0,none⟩),.pointer (some ⟨bw,0,none⟩),.pointer (some ⟨bo,0,none⟩)])) (.slice none 0 0) []:=
    ⟨hx4.setCell (p:=⟨bw,0,none⟩) HN1.out.2.2.2.2 _,hbg4.far (p:=⟨bw,0,none⟩) HN1.out.2.2.1 _,hbw4.set_ 0 _,hbo4.far (p:=⟨bw,0,none⟩) (fun h=>HN1.out.2.1 h.symm) _,OwnNd.nil _ _,HBZ.out,HN1.out.2.2.2.2,HN1.out.2.2.2.1,HN1.out.1,HN1.out.2.1⟩
   have HWA:=Lib.hid hwr
   clear hw4 hbo hbw hbo4 hbw4 hx4 hbg4 hwr hbgl z1 z2
   go_upto_region 9 with fail
   generalize (w4.setCell ⟨bw,0,none⟩ (.func (.func 48) #[] #[.pointer (some ⟨bg,0,none⟩),.pointer (some ⟨bw,0,none⟩),.pointer (some ⟨bo,0,none⟩)]))=w5 at *
   obtain ⟨f0,ff0,fh0⟩:=HWA.out.pw.oneG
   clear z3 zf3 zh3
   go_wp2_with fail
   refine (HWR.out bg bw bo w5 HWA.out (by rw [List.length_nil];omega)).mono ?_
   rintro r w6 ⟨v6,rfl,_,hw6⟩
   rw [List.nil_append,List.length_nil] at hw6
   have HW6:=Lib.hid hw6
   have HOKE:=Lib.hid (HOK.out h1 h2)
   obtain ⟨A6,c6,rfl⟩:=hw6.row.shape
   obtain ⟨o0,of0,oh0⟩:=hw6.po.oneG
   clear hw6 f0 ff0 fh0
   go_wp2_with fail
   go_ret2
   exact ⟨_,_,0,rfl,HW6.out.row.read,HOKE.out,by rw [flat_len];exact h1,HW6.out.ext⟩
  ·have ht1:decide ((e.depth:Int)>40)=true:=decide_eq_true (by omega)
   have ht2:decide ((40:Int)<(e.depth:Int))=true:=decide_eq_true (by omega)
   have ht3:decide (40<e.depth)=true:=decide_eq_true (by omega)
   have HBB:=Lib.hid (HBI.out (fun h=>h2 h.2))
   go_wp2_with fail
   go_ret2
   exact ⟨_,[],7,rfl,RNd.nilG _,HBB.out,by decide,HX2.out⟩
 ·have e1:min e.size 201=201:=Nat.min_eq_right (by omega)
  rw [e1] at z1
  have HBB:=Lib.hid (HBI.out (fun h=>h1 h.1))
  clear h1
  go_wp2_with fail
  go_ret2
  exact ⟨_,[],7,rfl,RNd.nilG _,HBB.out,by decide,HX2.out⟩
end Big
end Go.Proofs.YtaccjdbbkmhanaaGreatDoor
namespace Go.Proofs.YtaccjdbbkmhanaaGreatDoor
namespace Big
open Go.RowKit
structure KV (v v':Value) (w w':World):Prop where
 os:w'.os=w.os
 tape:w'.tape=w.tape
 output:w'.output=w.output
 size:w.heap.size≤w'.heap.size
 block:∀k,k<w.heap.size→v.ownBlock≠some k→w'.heap[k]? =w.heap[k]?
 move:∀j,v'.ownBlock=some j→v.ownBlock=some j∨w.heap.size≤j
theorem KV.of_ext {v:Value} {w w':World} (h:Ext w w'):KV v v w w':=⟨h.os,h.tape,h.output,h.size,fun k hk _=>h.block k hk,fun _ hj=> .inl hj⟩
theorem KV.trans {n1 n2 n3:Value} {w1 w2 w3:World} (h:KV n1 n2 w1 w2) (k:KV n2 n3 w2 w3):KV n1 n3 w1 w3:=
 ⟨k.os.trans h.os,k.tape.trans h.tape,k.output.trans h.output,Nat.le_trans h.size k.size,fun i h1 h4=>
  (k.block i (Nat.lt_of_lt_of_le h1 h.size) (fun e=>by
   rcases h.move i e with h5|h5
   ·exact h4 h5
   ·omega)).trans (h.block i h1 h4),fun j hj=>by
  rcases k.move j hj with h4|h4
  ·exact h.move j h4
  ·exact .inr (Nat.le_trans h.size h4)⟩
theorem KV.ext {v v':Value} {w0 w w':World} {l:List Nd} (h:KV v v' w w') (hx:Ext w0 w) (hr:OwnNd w0.heap.size w v l):Ext w0 w':=
 ⟨h.os.trans hx.os,h.tape.trans hx.tape,h.output.trans hx.output,Nat.le_trans hx.size h.size,fun k hk=>(h.block k (Nat.lt_of_lt_of_le hk hx.size) (fun e=>by have:=ownsRow_block hr k e;omega)).trans (hx.block k hk)⟩
theorem KV.above {v v':Value} {w w1 w':World} (h:KV v v' w w1) (hb:Below w.heap.size w1 w'):KV v v' w w':=
 ⟨hb.os.trans h.os,hb.tape.trans h.tape,hb.output.trans h.output,Nat.le_trans h.size hb.size,fun k p1 p2=>(hb.block k p1).trans (h.block k p1 p2),h.move⟩
def UnPost (w0:World) (w:World) (v:Value) (xs:List Nd) (e:Ex) (r:Ending) (w':World):Prop:=
 (xs.length+e.size≤200∧∃v',r= .returned (.tuple #[v',.bool true])∧OwnNd w0.heap.size w' v' (xs++flat xs.length e)∧KV v v' w w')∨
 (200<xs.length+e.size∧∃A n c,r= .returned (.tuple #[.slice A n c,.bool false])∧Ext w0 w')
theorem un_next {w0 W w':World} {g6 c6:Nat} {v:Value} {xs:List Nd} {o:Obj} (hx:Ext w0 W) (hr:OwnNd w0.heap.size W v xs) (hgr:(W.alloc o).grownBy w' v.ownBlock) (hat:v.ownBlock=some g6∨g6=(W.alloc o).heap.size):
  KV v (.slice (some ⟨g6,0,none⟩) (xs.length+1) c6) W w'∧Ext w0 w':=by
 have hs:(W.alloc o).heap.size=W.heap.size+1:=by simp
 have hsz:=hgr.size
 have hk:KV v (.slice (some ⟨g6,0,none⟩) (xs.length+1) c6) W w':=⟨hgr.os,hgr.tape,hgr.output,by omega,fun k h1 h2=>(hgr.block k (by omega) (fun e=>h2 e.symm)).trans (Below.heap_alloc W o k h1),fun j hj=>by
  have h6:g6=j:=Option.some.inj hj
  rcases hat with h5|h5
  ·exact .inl (by rw [h5,h6])
  ·exact .inr (by omega)⟩
 exact ⟨hk,hk.ext hx hr⟩
theorem RowN.atG {B n:Nat} {w w':World} {v:Value} {S:List Nat} (h:RowN B w v n S) (hk:∀k,v.ownBlock=some k→w'.heap[k]? =w.heap[k]?):RowN B w' v n S:=ownsRow_at h hk
set_option maxHeartbeats 8000000 in
set_option maxRecDepth 100000 in
theorem unfold_any (B g:Nat) (w0:World) (ns:List Nd) (rv:Value) (hg:GrR B g w0 ns rv) (e:Ex):∀(i:Nat) (w:World) (v:Value) (xs:List Nd),e.Good→Rep ns i e→Ext w0 w→OwnNd w0.heap.size w v xs→xs.length≤200→
  Calls Tryz.prog 49 #[.pointer (some ⟨g,0,none⟩),.int .i64 (i:Int),v] w (UnPost w0 w v xs e):=by
 induction e with
 |leaf k t=>
  intro i w v xs hgd hrep hext hrow hlen
  have hx:ns[i]? =some ⟨(k:Int),0,0,0,t⟩:=hrep
  have hi:i<ns.length:=(List.getElem?_eq_some_iff.1 hx).1
  have hok:=hg.ok.2 i _ hx
  have hfew:=hg.few
  have HGO:=Lib.hid (fun W=>rargs_any W ⟨(k:Int),0,0,0,t⟩ hok)
  have hag:argsG ⟨(k:Int),0,0,0,t⟩=[]:=argsG_leaf (show LeafOk k t from hgd)
  rw [hag] at HGO
  unfold ArgsPost at HGO
  obtain ⟨i0,hif,hz0,hz1,hz2⟩:=info_parts info_node
  obtain ⟨j0,jif,jz0,jz1,jz2⟩:=info_parts info_int
  obtain ⟨gb,o,hA,hgw,hc⟩:∃gb o,(∃c,rv= .slice (some ⟨gb,o,none⟩) ns.length c)∧gb<w0.heap.size∧NdAt w0 gb (o+i*5) ⟨(k:Int),0,0,0,t⟩:=by
   obtain ⟨A,c,rfl,h1⟩:=hg.row.read
   obtain ⟨gb,o,rfl,h2,h3⟩:=h1 (by omega)
   have h4:=h3 i hi
   rw [(List.getElem?_eq_some_iff.1 hx).2] at h4
   exact ⟨gb,o,⟨c,rfl⟩,h2,h4⟩
  obtain ⟨cg,hnv⟩:=hA
  obtain ⟨p0,p1,p2,p3,p4⟩:=hc
  rw [←hext.cell hgw] at p0 p1 p2 p3 p4
  obtain ⟨k0,f0,hgz⟩:=(hg.keep hext).blk.oneG
  rw [hnv] at k0
  have HX:=Lib.hid hext
  have HR:=Lib.hid hrow
  have hwz:=hext.size
  have hi0:(0:Int)≤(i:Int):=by omega
  have hin:(i:Int)<(ns.length:Int):=by omega
  have hvn:v.ownBlock≠some w.heap.size:=fun e=>by have:=ownsRow_ltG hrow e;omega
  obtain ⟨A1,c1,rfl⟩:=hrow.shape
  simp only [ndV] at HGO
  simp only at p0 p1 p2 p3 p4
  generalize hkk:(k:Int)=kk at *
  obtain ⟨s,hs⟩:∃s:ByteArray,s=⟨(t:List UInt8).toArray⟩:=⟨_,rfl⟩
  have HNC:Hid (∀za zb:Int,ndC ⟨kk,za,zb,0,t⟩=[.int .i64 kk,.int .i64 za,.int .i64 zb,.int .i64 0,.string s]):=Lib.hid (fun za zb=>by rw [hs];rfl)
  have hst:str t= .string s:=by rw [hs];rfl
  rw [hst] at p4 HGO
  clear hs hst hok hx hi hext hrow
  have HNB3:=Lib.hid (Blk.new w 50 #[.int .i64 kk,.int .i64 0,.int .i64 0,.int .i64 0,.string s])
  have HX3:=Lib.hid ((Ext.refl w).alloc (.cells #[.int .i64 kk,.int .i64 0,.int .i64 0,.int .i64 0,.string s] 50))
  obtain ⟨nb,hnb⟩:∃nb,nb=w.heap.size:=⟨_,rfl⟩
  obtain ⟨w3,hw3⟩:∃w3,w3=w.alloc (.cells #[.int .i64 kk,.int .i64 0,.int .i64 0,.int .i64 0,.string s] 50):=⟨_,rfl⟩
  rw [←hw3,←hnb] at HNB3
  rw [←hw3] at HX3
  rw [←hnb] at hvn
  go_enter Tryz.func49,Tryz.ntmps49
  go_upto_region 2 with fail
  rw [←hw3,←hnb]
  have HNBS:Hid (nb=w.heap.size):=Lib.hid hnb
  clear hw3 hnb p0 p1 p2 p3 p4 k0 f0
  obtain ⟨q0,q1,q2,q3,q4⟩:=HNB3.out.five
  go_wp2_with fail
  refine (HGO.out w3).mono ?_
  rintro e w4 ⟨A3,c3,rfl,hx4,hc3⟩
  have HX4:=Lib.hid (HX.out.trans (HX3.out.trans hx4))
  have HR4:=Lib.hid (HR.out.ext (HX3.out.trans hx4))
  have HNB4:=Lib.hid (HNB3.out.ext hx4)
  have HK4:Hid (KV (.slice A1 xs.length c1) (.slice A1 xs.length c1) w w4):=Lib.hid (KV.of_ext (HX3.out.trans hx4))
  have hs34:=HX3.out.size
  have hs44:=hx4.size
  clear q0 q1 q2 q3 q4 HGO
  have hz:([]:List Nat).length=0:=rfl
  rw [hz]
  clear hc3 hz hx4
  go_wp2_with fail
  go_loopw [2,9,23] (fun s2 s9 s23 wr=>s2=(.slice A1 xs.length c1)∧s9= .slice none 0 0∧s23= .int .i64 0∧OwnNd w0.heap.size wr (.slice A1 xs.length c1) xs∧Blk wr nb 50 #[.int .i64 kk,.int .i64 0,.int .i64 0,.int .i64 0,.string s]∧KV (.slice A1 xs.length c1) (.slice A1 xs.length c1) w wr∧Ext w0 wr) (fun _ _ s23 _=>0-(intOf s23).toNat)
  case atStart=>exact ⟨rfl,rfl,rfl,HR4.out,HNB4.out,HK4.out,HX4.out⟩
  case round=>
   clear HR4 HNB4 HK4 HX4
   obtain ⟨rfl,rfl,rfl,hrw,hnb,hkg,hxr⟩:=hrel
   have HRW:=Lib.hid hrw
   have HNB:=Lib.hid hnb
   have HKG:=Lib.hid hkg
   have HXR:=Lib.hid hxr
   clear hrw hnb hkg hxr
   obtain ⟨m2,hm2⟩:∃m2,m2=xs.length:=⟨_,rfl⟩
   have HLN:=Lib.hid hm2
   rw [←hm2] at HRW HKG hlen ⊢
   clear hm2
   unfold UnPost
   have hwz2:=HXR.out.size
   have HRA:Hid ((wr.alloc (.cells #[.int .i64 kk,.int .i64 0,.int .i64 0,.int .i64 0,.string s] 50)).ownsRow w0.heap.size 50 5 (.slice A1 m2 c1) m2 (ndsC xs)):=Lib.hid (ownsRow_below (by have h:=HRW.out;unfold OwnNd at h;rw [←HLN.out] at h;exact h) (fun k _ hk=>Below.heap_alloc _ _ k hk))
   have HNW:=Lib.hid (newsL wr 50 [.int .i64 kk,.int .i64 0,.int .i64 0,.int .i64 0,.string s])
   have HBB1:Hid (m2+1≤maxLen):=Lib.hid (by unfold maxLen;omega)
   have HBB2:Hid ((m2+1)*48≤140737488355328):=Lib.hid (by omega)
   have HBB3:Hid (w0.heap.size≤(wr.alloc (.cells #[.int .i64 kk,.int .i64 0,.int .i64 0,.int .i64 0,.string s] 50)).heap.size):=Lib.hid (by simp;omega)
   have HNX:=Lib.hid (fun w6 g6 c6 o hgr hat=>un_next (w':=w6) (g6:=g6) (c6:=c6) (o:=o) HXR.out HRW.out hgr hat)
   obtain ⟨q0,q1,q2,q3,q4⟩:=HNB.out.five
   by_cases hle:m2+1≤200
   all_goals
    first
     |have hdl:decide ((m2:Int)+1≤200)=true:=decide_eq_true (by omega)
     |have hdl:decide ((m2:Int)+1≤200)=false:=decide_eq_false (by omega)
    go_wp2_with (at_builtin;go_must (refine wpList_append_lies _ rfl _ _ 25 rfl w0.heap.size 50 i0 _ 5 48 Tryz.underlying25 hif hz0 hz1 hz2 rfl (by decide) (.slice A1 m2 c1) m2 (ndsC xs) rfl HRA.out ⟨wr.heap.size,0,none⟩ 1 1 [.int .i64 kk,.int .i64 0,.int .i64 0,.int .i64 0,.string s] rfl rfl HNW.out (by simp [Value.oneCell']) (by decide) HBB1.out HBB2.out HBB3.out _ rfl ?_;intro g6 c6 w6 hown6 hgr6 hat6 hlt6;have HO6:Hid (OwnNd w0.heap.size w6 (.slice (some ⟨g6,0,none⟩) (xs.length+1) c6) (xs++[⟨kk,0,0,0,t⟩])):=Lib.hid (by unfold OwnNd;rw [ndsC_append,ndsC_one,HNC.out,List.length_append,List.length_singleton,←HLN.out];exact hown6);have HFF:=Lib.hid (HNX.out w6 g6 c6 _ hgr6 hat6);clear hown6 hgr6 hat6 hlt6;rw [←HLN.out] at HFF HO6))
    go_ret2
   ·have e:=HLN.out
    subst e
    refine .inl ⟨by simp only [Ex.size];omega,_,rfl,?_,HKG.out.trans HFF.out.1⟩
    have h:=HO6.out
    rw [flat,hkk]
    exact h
   ·have e:=HLN.out
    subst e
    exact .inr ⟨by simp only [Ex.size];omega,_,_,_,rfl,HFF.out.2⟩
 |un k n x ih=>
  intro i w v xs hgd hrep hext hrow hlen
  obtain ⟨j,hrj,hx⟩:=hrep
  have HIH:=Lib.hid (fun W v xs h h2 hl=>ih j W v xs hgd.2.2.2.2 hrj h h2 hl)
  have hi:i<ns.length:=(List.getElem?_eq_some_iff.1 hx).1
  have hok:=hg.ok.2 i _ hx
  have hfew:=hg.few
  have HGO:=Lib.hid (fun W=>rargs_any W ⟨(k:Int),(j:Int),0,n,[]⟩ hok)
  have hag:argsG ⟨(k:Int),(j:Int),0,n,[]⟩=[j]:=argsG_un (show UnOk k n from ⟨hgd.1,hgd.2.1,hgd.2.2.1,hgd.2.2.2.1⟩)
  rw [hag] at HGO
  unfold ArgsPost at HGO
  obtain ⟨i0,hif,hz0,hz1,hz2⟩:=info_parts info_node
  obtain ⟨j0,jif,jz0,jz1,jz2⟩:=info_parts info_int
  obtain ⟨gb,o,hA,hgw,hc⟩:∃gb o,(∃c,rv= .slice (some ⟨gb,o,none⟩) ns.length c)∧gb<w0.heap.size∧NdAt w0 gb (o+i*5) ⟨(k:Int),(j:Int),0,n,[]⟩:=by
   obtain ⟨A,c,rfl,h1⟩:=hg.row.read
   obtain ⟨gb,o,rfl,h2,h3⟩:=h1 (by omega)
   have h4:=h3 i hi
   rw [(List.getElem?_eq_some_iff.1 hx).2] at h4
   exact ⟨gb,o,⟨c,rfl⟩,h2,h4⟩
  obtain ⟨cg,hnv⟩:=hA
  obtain ⟨p0,p1,p2,p3,p4⟩:=hc
  rw [←hext.cell hgw] at p0 p1 p2 p3 p4
  obtain ⟨k0,f0,hgz⟩:=(hg.keep hext).blk.oneG
  rw [hnv] at k0
  have HX:=Lib.hid hext
  have HR:=Lib.hid hrow
  have hwz:=hext.size
  have hi0:(0:Int)≤(i:Int):=by omega
  have hin:(i:Int)<(ns.length:Int):=by omega
  have hvn:v.ownBlock≠some w.heap.size:=fun e=>by have:=ownsRow_ltG hrow e;omega
  obtain ⟨A1,c1,rfl⟩:=hrow.shape
  simp only [ndV] at HGO
  simp only at p0 p1 p2 p3 p4
  generalize hkk:(k:Int)=kk at *
  obtain ⟨s,hs⟩:∃s:ByteArray,s=⟨([]:List UInt8).toArray⟩:=⟨_,rfl⟩
  have HNC:Hid (∀za zb:Int,ndC ⟨kk,za,zb,n,[]⟩=[.int .i64 kk,.int .i64 za,.int .i64 zb,.int .i64 n,.string s]):=Lib.hid (fun za zb=>by rw [hs];rfl)
  have hst:str []= .string s:=by rw [hs];rfl
  rw [hst] at p4 HGO
  clear hs hst hok hx hi hext hrow
  have HNB3:=Lib.hid (Blk.new w 50 #[.int .i64 kk,.int .i64 (j:Int),.int .i64 0,.int .i64 n,.string s])
  have HX3:=Lib.hid ((Ext.refl w).alloc (.cells #[.int .i64 kk,.int .i64 (j:Int),.int .i64 0,.int .i64 n,.string s] 50))
  obtain ⟨nb,hnb⟩:∃nb,nb=w.heap.size:=⟨_,rfl⟩
  obtain ⟨w3,hw3⟩:∃w3,w3=w.alloc (.cells #[.int .i64 kk,.int .i64 (j:Int),.int .i64 0,.int .i64 n,.string s] 50):=⟨_,rfl⟩
  rw [←hw3,←hnb] at HNB3
  rw [←hw3] at HX3
  rw [←hnb] at hvn
  go_enter Tryz.func49,Tryz.ntmps49
  go_upto_region 2 with fail
  rw [←hw3,←hnb]
  have HNBS:Hid (nb=w.heap.size):=Lib.hid hnb
  clear hw3 hnb p0 p1 p2 p3 p4 k0 f0
  obtain ⟨q0,q1,q2,q3,q4⟩:=HNB3.out.five
  go_wp2_with fail
  refine (HGO.out w3).mono ?_
  rintro e w4 ⟨A3,c3,rfl,hx4,hc3⟩
  have HX4:=Lib.hid (HX.out.trans (HX3.out.trans hx4))
  have HR4:=Lib.hid (HR.out.ext (HX3.out.trans hx4))
  have HNB4:=Lib.hid (HNB3.out.ext hx4)
  have HK4:Hid (KV (.slice A1 xs.length c1) (.slice A1 xs.length c1) w w4):=Lib.hid (KV.of_ext (HX3.out.trans hx4))
  have hs34:=HX3.out.size
  have hs44:=hx4.size
  clear q0 q1 q2 q3 q4 HGO
  have hz:([j]:List Nat).length=1:=rfl
  rw [hz] at hc3 ⊢
  clear hz
  obtain ⟨b3,rfl,hb3a,hb3b,hcell⟩:=hc3 (by decide)
  clear hc3
  have y0:w4.cell? ⟨b3,0,none⟩=some (.int .i64 (j:Int)):=hcell 0 (by decide)
  have hs3:=HNB3.out.lt
  have HB3:Hid ((Value.slice A1 xs.length c1).ownBlock≠some b3∧b3≠nb):=Lib.hid ⟨fun e=>by have:=ownsRow_ltG HR.out e;omega,by omega⟩
  have HN1:Hid (w.heap.size≤nb∧w0.heap.size≤nb):=Lib.hid (by have:=HNBS.out;omega)
  clear hcell hb3a hb3b hs3 hx4
  obtain ⟨xs1,hxs1⟩:∃xs1,xs1=xs++flat xs.length x:=⟨_,rfl⟩
  have hl1:xs1.length=xs.length+x.size:=by rw [hxs1,List.length_append,flat_len]
  have hxp:=x.size_pos
  have HXS1:=Lib.hid hxs1
  have HL1:=Lib.hid hl1
  obtain ⟨kx,hkx⟩:∃kx:Nat,kx+1=xs1.length:=⟨xs1.length-1,by omega⟩
  have HKX:=Lib.hid hkx
  have HIX1:Hid ((kx:Int)=((xs.length+x.size-1:Nat):Int)):=Lib.hid (by omega)
  clear hxs1 hkx hl1
  have hw1':IntKind.i64.wrap ((0:Int)+1)=1:=by decide
  have hw2':IntKind.i64.wrap ((1:Int)+1)=2:=by decide
  go_wp2_with fail
  go_loopw [2,9,23] (fun s2 s9 s23 wr=>(s2=(.slice A1 xs.length c1)∧s9= .slice none 0 0∧s23= .int .i64 0∧OwnNd w0.heap.size wr (.slice A1 xs.length c1) xs∧Blk wr nb 50 #[.int .i64 kk,.int .i64 (j:Int),.int .i64 0,.int .i64 n,.string s]∧KV (.slice A1 xs.length c1) (.slice A1 xs.length c1) w wr∧Ext w0 wr∧wr.cell? ⟨b3,0,none⟩=some (.int .i64 (j:Int)))∨(s23= .int .i64 1∧∃ga ca,s9= .slice (some ⟨ga,0,none⟩) 1 ca∧OwnNd w0.heap.size wr s2 xs1∧xs1.length≤200∧Blk wr nb 50 #[.int .i64 kk,.int .i64 (j:Int),.int .i64 0,.int .i64 n,.string s]∧KV (.slice A1 xs.length c1) s2 w wr∧Ext w0 wr∧RowN w.heap.size wr (.slice (some ⟨ga,0,none⟩) 1 ca) 1 [kx]∧s2.ownBlock≠some nb∧s2.ownBlock≠some ga∧ga≠nb)) (fun _ _ s23 _=>1-(intOf s23).toNat)
  case atStart=>exact .inl ⟨rfl,rfl,rfl,HR4.out,HNB4.out,HK4.out,HX4.out,y0⟩
  case round=>
   clear HR4 HNB4 HK4 HX4 y0
   rcases hrel with ⟨rfl,rfl,rfl,hrw,hnb,hkg,hxr,y0⟩|⟨rfl,ga,ca,rfl,hrw,hl1,hnb,hkg,hxr,hat,hv1,hv2,hv3⟩
   ·have HRW:=Lib.hid hrw
    have HNB:=Lib.hid hnb
    have HKG:=Lib.hid hkg
    have HXR:=Lib.hid hxr
    clear hrw hnb hkg hxr
    go_wp2_with fail
    refine (HIH.out wr _ xs HXR.out HRW.out (by omega)).mono ?_
    rintro r w5 (⟨hl5,v5,rfl,hr5,hk5⟩|⟨hl5,A5,n5,c5,rfl,hx5⟩)
    ·rw [←HXS1.out] at hr5
     have HR5:=Lib.hid hr5
     have HK5:=Lib.hid hk5
     have HX5:=Lib.hid (hk5.ext HXR.out HRW.out)
     have HNB5:Hid (Blk w5 nb 50 #[.int .i64 kk,.int .i64 (j:Int),.int .i64 0,.int .i64 n,.string s]):=Lib.hid ((hk5.block nb HNB.out.lt hvn).trans HNB.out)
     have hvn5:v5.ownBlock≠some nb:=fun e=>by
      rcases hk5.move nb e with h|h
      ·exact hvn h
      ·have:=HNB.out.lt;omega
     have hvlt:∀k,v5.ownBlock=some k→k<w5.heap.size:=fun k hk=>ownsRow_ltG hr5 hk
     have hnlt:nb<w5.heap.size:=HNB5.out.lt
     have HA5:Hid (RowN w.heap.size w5 (.slice none 0 0) 0 []):=Lib.hid (RowN.nil _ _)
     obtain ⟨A5,c5,rfl⟩:=hr5.shape
     have hlx:xs1.length≤200:=by have h1:=HL1.out;omega
     clear hr5 hk5 y0
     have hwx:IntKind.i64.wrap ((xs1.length:Int)-1)=(kx:Int):=by have h1:=HKX.out;rw [IntWalk.i64_in _ (by omega)];omega
     have HRA:Hid ((w5.alloc (.cells #[.int .i64 (kx:Int)] 3)).ownsRow w.heap.size 3 1 (.slice none 0 0) 0 (([]:List Nat).map din)):=Lib.hid (ownsRow_below HA5.out (fun k _ hk=>Below.heap_alloc _ _ k hk))
     have HNW:=Lib.hid (newsL w5 3 [.int .i64 (kx:Int)])
     have HBB1:Hid (0+1≤maxLen):=Lib.hid (by unfold maxLen;omega)
     have HBB2:Hid ((0+1)*8≤140737488355328):=Lib.hid (by omega)
     have HBB3:Hid (w.heap.size≤(w5.alloc (.cells #[.int .i64 (kx:Int)] 3)).heap.size):=Lib.hid (by have:=HKG.out.size;have:=HK5.out.size;simp;omega)
     go_wp2_with (at_builtin;go_must (refine wpList_append_lies _ rfl _ _ 22 rfl w.heap.size 3 j0 _ 1 8 Tryz.underlying22 jif jz0 jz1 jz2 rfl (by decide) (.slice none 0 0) 0 (([]:List Nat).map din) rfl HRA.out ⟨w5.heap.size,0,none⟩ 1 1 [.int .i64 (kx:Int)] rfl rfl HNW.out (by simp [Value.oneCell']) (by decide) HBB1.out HBB2.out HBB3.out _ rfl ?_;intro g6 c6 w6 hown6 hgr6 hat6 hlt6;have HE6:Hid (Ext w5 w6∧g6=w5.heap.size+1∧RowN w.heap.size w6 (.slice (some ⟨g6,0,none⟩) 1 c6) 1 [kx]):=Lib.hid ⟨⟨hgr6.os,hgr6.tape,hgr6.output,(by have:=hgr6.size;simp at this;omega),fun k hk=>(hgr6.block k (by simp;omega) (by simp [Value.ownBlock])).trans (Below.heap_alloc _ _ k hk)⟩,(by rcases hat6 with h|h;exact absurd h (by simp [Value.ownBlock]);simpa using h),hown6⟩;clear hown6 hgr6 hat6 hlt6))
     go_roundw
     case rel=>
      have e6:=HE6.out.2.1
      exact .inr ⟨by go_num,g6,c6,rfl,HR5.out.ext HE6.out.1,hlx,HNB5.out.ext HE6.out.1,(HKG.out.trans HK5.out).above (HE6.out.1.mono (by have:=HKG.out.size;have:=HK5.out.size;omega)),HX5.out.trans HE6.out.1,HE6.out.2.2,hvn5,fun e=>by have:=hvlt g6 e;omega,by omega⟩
     case measure=>simp [intOf]
    ·have HXF:=Lib.hid hx5
     have hbig:200<xs.length+(x.size+1):=by have h1:=HL1.out;omega
     clear hx5 hl5
     go_wp2_with fail
     go_ret2
     exact .inr ⟨hbig,_,_,_,rfl,HXF.out⟩
   ·have HRW:=Lib.hid hrw
    have HNB:=Lib.hid hnb
    have HKG:=Lib.hid hkg
    have HXR:=Lib.hid hxr
    clear hrw hnb hkg hxr
    obtain ⟨A2,c2,rfl⟩:=HRW.out.shape
    have HAT:=Lib.hid hat
    have t0:=HAT.out.get 0 (by decide)
    obtain ⟨q0,q1,q2,q3,q4⟩:=HNB.out.five
    have f1:=HNB.out.frozen 1
    have HNBA:=Lib.hid (HNB.out.set_ 1 (.int .i64 (kx:Int)))
    have hrz:OwnNd w0.heap.size (wr.setCell ⟨nb,1,none⟩ (.int .i64 (kx:Int))) (.slice A2 xs1.length c2) xs1:=ownsRow_at HRW.out (fun k hk=>Below.heap_setCell _ _ _ k (fun e=>hv1 (by have e2:k=nb:=e;rw [←e2];exact hk)))
    have hkz:KV (.slice A1 xs.length c1) (.slice A2 xs1.length c2) w (wr.setCell ⟨nb,1,none⟩ (.int .i64 (kx:Int))):=HKG.out.above (Below.setCell (Below.refl _ wr) (p:=⟨nb,1,none⟩) HN1.out.1 _)
    have hxz:Ext w0 (wr.setCell ⟨nb,1,none⟩ (.int .i64 (kx:Int))):=HXR.out.setCell (p:=⟨nb,1,none⟩) HN1.out.2 _
    have hnz:Blk (wr.setCell ⟨nb,1,none⟩ (.int .i64 (kx:Int))) nb 50 #[.int .i64 kk,.int .i64 (kx:Int),.int .i64 0,.int .i64 n,.string s]:=HNBA.out
    clear hat
    go_upto_region 16 with fail
    generalize hwz9:wr.setCell ⟨nb,1,none⟩ (.int .i64 (kx:Int))=wz at *
    have HRWz:=Lib.hid hrz
    have HKGz:=Lib.hid hkz
    have HXRz:=Lib.hid hxz
    have HNBz:=Lib.hid hnz
    clear hrz hkz hxz hnz HRW HKG HXR HNB HNBA hwz9 q0 q1 q2 q3 q4 f1 t0
    have HRW:=HRWz
    have HKG:=HKGz
    have HXR:=HXRz
    have HNB:=HNBz
    obtain ⟨m2,hm2⟩:∃m2,m2=xs1.length:=⟨_,rfl⟩
    have HLN:=Lib.hid hm2
    rw [←hm2] at HRW HKG hl1 ⊢
    clear hm2 HRWz HKGz HXRz HNBz
    unfold UnPost
    have hwz2:=HXR.out.size
    have HRA:Hid ((wz.alloc (.cells #[.int .i64 kk,.int .i64 (kx:Int),.int .i64 0,.int .i64 n,.string s] 50)).ownsRow w0.heap.size 50 5 (.slice A2 m2 c2) m2 (ndsC xs1)):=Lib.hid (ownsRow_below (by have h:=HRW.out;unfold OwnNd at h;rw [←HLN.out] at h;exact h) (fun k _ hk=>Below.heap_alloc _ _ k hk))
    have HNW:=Lib.hid (newsL wz 50 [.int .i64 kk,.int .i64 (kx:Int),.int .i64 0,.int .i64 n,.string s])
    have HBB1:Hid (m2+1≤maxLen):=Lib.hid (by unfold maxLen;omega)
    have HBB2:Hid ((m2+1)*48≤140737488355328):=Lib.hid (by omega)
    have HBB3:Hid (w0.heap.size≤(wz.alloc (.cells #[.int .i64 kk,.int .i64 (kx:Int),.int .i64 0,.int .i64 n,.string s] 50)).heap.size):=Lib.hid (by simp;omega)
    have HNX:=Lib.hid (fun w6 g6 c6 o hgr hat=>un_next (w':=w6) (g6:=g6) (c6:=c6) (o:=o) HXR.out HRW.out hgr hat)
    obtain ⟨q0,q1,q2,q3,q4⟩:=HNB.out.five
    by_cases hle:m2+1≤200
    all_goals
     first
      |have hdl:decide ((m2:Int)+1≤200)=true:=decide_eq_true (by omega)
      |have hdl:decide ((m2:Int)+1≤200)=false:=decide_eq_false (by omega)
     go_wp2_with (at_builtin;go_must (refine wpList_append_lies _ rfl _ _ 25 rfl w0.heap.size 50 i0 _ 5 48 Tryz.underlying25 hif hz0 hz1 hz2 rfl (by decide) (.slice A2 m2 c2) m2 (ndsC xs1) rfl HRA.out ⟨wz.heap.size,0,none⟩ 1 1 [.int .i64 kk,.int .i64 (kx:Int),.int .i64 0,.int .i64 n,.string s] rfl rfl HNW.out (by simp [Value.oneCell']) (by decide) HBB1.out HBB2.out HBB3.out _ rfl ?_;intro g6 c6 w6 hown6 hgr6 hat6 hlt6;have HO6:Hid (OwnNd w0.heap.size w6 (.slice (some ⟨g6,0,none⟩) (xs1.length+1) c6) (xs1++[⟨kk,(kx:Int),0,n,[]⟩])):=Lib.hid (by unfold OwnNd;rw [ndsC_append,ndsC_one,HNC.out,List.length_append,List.length_singleton,←HLN.out];exact hown6);have HFF:=Lib.hid (HNX.out w6 g6 c6 _ hgr6 hat6);clear hown6 hgr6 hat6 hlt6;rw [←HLN.out] at HFF HO6))
     go_ret2
    ·have e:=HLN.out
     subst e
     refine .inl ⟨by have h1:=HL1.out;simp only [Ex.size];omega,_,rfl,?_,HKG.out.trans HFF.out.1⟩
     have h:=HO6.out
     rw [flat,hkk,←List.append_assoc,←HXS1.out,←HIX1.out]
     exact h
    ·have e:=HLN.out
     subst e
     exact .inr ⟨by have h1:=HL1.out;simp only [Ex.size];omega,_,_,_,rfl,HFF.out.2⟩
 |bin k x y ihx ihy=>
  intro i w v xs hgd hrep hext hrow hlen
  obtain ⟨j,q,hrj,hrq,hx⟩:=hrep
  have HIX:=Lib.hid (fun W v xs h h2 hl=>ihx j W v xs hgd.2.1 hrj h h2 hl)
  have HIY:=Lib.hid (fun W v xs h h2 hl=>ihy q W v xs hgd.2.2 hrq h h2 hl)
  have hi:i<ns.length:=(List.getElem?_eq_some_iff.1 hx).1
  have hok:=hg.ok.2 i _ hx
  have hfew:=hg.few
  have HGO:=Lib.hid (fun W=>rargs_any W ⟨(k:Int),(j:Int),(q:Int),0,[]⟩ hok)
  have hag:argsG ⟨(k:Int),(j:Int),(q:Int),0,[]⟩=[j,q]:=argsG_bin hgd.1
  rw [hag] at HGO
  unfold ArgsPost at HGO
  obtain ⟨i0,hif,hz0,hz1,hz2⟩:=info_parts info_node
  obtain ⟨j0,jif,jz0,jz1,jz2⟩:=info_parts info_int
  obtain ⟨gb,o,hA,hgw,hc⟩:∃gb o,(∃c,rv= .slice (some ⟨gb,o,none⟩) ns.length c)∧gb<w0.heap.size∧NdAt w0 gb (o+i*5) ⟨(k:Int),(j:Int),(q:Int),0,[]⟩:=by
   obtain ⟨A,c,rfl,h1⟩:=hg.row.read
   obtain ⟨gb,o,rfl,h2,h3⟩:=h1 (by omega)
   have h4:=h3 i hi
   rw [(List.getElem?_eq_some_iff.1 hx).2] at h4
   exact ⟨gb,o,⟨c,rfl⟩,h2,h4⟩
  obtain ⟨cg,hnv⟩:=hA
  obtain ⟨p0,p1,p2,p3,p4⟩:=hc
  rw [←hext.cell hgw] at p0 p1 p2 p3 p4
  obtain ⟨k0,f0,hgz⟩:=(hg.keep hext).blk.oneG
  rw [hnv] at k0
  have HX:=Lib.hid hext
  have HR:=Lib.hid hrow
  have hwz:=hext.size
  have hi0:(0:Int)≤(i:Int):=by omega
  have hin:(i:Int)<(ns.length:Int):=by omega
  have hvn:v.ownBlock≠some w.heap.size:=fun e=>by have:=ownsRow_ltG hrow e;omega
  obtain ⟨A1,c1,rfl⟩:=hrow.shape
  simp only [ndV] at HGO
  simp only at p0 p1 p2 p3 p4
  generalize hkk:(k:Int)=kk at *
  obtain ⟨s,hs⟩:∃s:ByteArray,s=⟨([]:List UInt8).toArray⟩:=⟨_,rfl⟩
  have HNC:Hid (∀za zb:Int,ndC ⟨kk,za,zb,0,[]⟩=[.int .i64 kk,.int .i64 za,.int .i64 zb,.int .i64 0,.string s]):=Lib.hid (fun za zb=>by rw [hs];rfl)
  have hst:str []= .string s:=by rw [hs];rfl
  rw [hst] at p4 HGO
  clear hs hst hok hx hi hext hrow
  have HNB3:=Lib.hid (Blk.new w 50 #[.int .i64 kk,.int .i64 (j:Int),.int .i64 (q:Int),.int .i64 0,.string s])
  have HX3:=Lib.hid ((Ext.refl w).alloc (.cells #[.int .i64 kk,.int .i64 (j:Int),.int .i64 (q:Int),.int .i64 0,.string s] 50))
  obtain ⟨nb,hnb⟩:∃nb,nb=w.heap.size:=⟨_,rfl⟩
  obtain ⟨w3,hw3⟩:∃w3,w3=w.alloc (.cells #[.int .i64 kk,.int .i64 (j:Int),.int .i64 (q:Int),.int .i64 0,.string s] 50):=⟨_,rfl⟩
  rw [←hw3,←hnb] at HNB3
  rw [←hw3] at HX3
  rw [←hnb] at hvn
  go_enter Tryz.func49,Tryz.ntmps49
  go_upto_region 2 with fail
  rw [←hw3,←hnb]
  have HNBS:Hid (nb=w.heap.size):=Lib.hid hnb
  clear hw3 hnb p0 p1 p2 p3 p4 k0 f0
  obtain ⟨q0,q1,q2,q3,q4⟩:=HNB3.out.five
  go_wp2_with fail
  refine (HGO.out w3).mono ?_
  rintro e w4 ⟨A3,c3,rfl,hx4,hc3⟩
  have HX4:=Lib.hid (HX.out.trans (HX3.out.trans hx4))
  have HR4:=Lib.hid (HR.out.ext (HX3.out.trans hx4))
  have HNB4:=Lib.hid (HNB3.out.ext hx4)
  have HK4:Hid (KV (.slice A1 xs.length c1) (.slice A1 xs.length c1) w w4):=Lib.hid (KV.of_ext (HX3.out.trans hx4))
  have hs34:=HX3.out.size
  have hs44:=hx4.size
  clear q0 q1 q2 q3 q4 HGO
  have hz:([j,q]:List Nat).length=2:=rfl
  rw [hz] at hc3 ⊢
  clear hz
  obtain ⟨b3,rfl,hb3a,hb3b,hcell⟩:=hc3 (by decide)
  clear hc3
  have y0:w4.cell? ⟨b3,0,none⟩=some (.int .i64 (j:Int)):=hcell 0 (by decide)
  have y1:w4.cell? ⟨b3,1,none⟩=some (.int .i64 (q:Int)):=hcell 1 (by decide)
  have hs3:=HNB3.out.lt
  have HB3:Hid ((Value.slice A1 xs.length c1).ownBlock≠some b3∧b3≠nb):=Lib.hid ⟨fun e=>by have:=ownsRow_ltG HR.out e;omega,by omega⟩
  have HN1:Hid (w.heap.size≤nb∧w0.heap.size≤nb):=Lib.hid (by have:=HNBS.out;omega)
  clear hcell hb3a hb3b hs3 hx4
  obtain ⟨xs1,hxs1⟩:∃xs1,xs1=xs++flat xs.length x:=⟨_,rfl⟩
  have hl1:xs1.length=xs.length+x.size:=by rw [hxs1,List.length_append,flat_len]
  have hxp:=x.size_pos
  have HXS1:=Lib.hid hxs1
  have HL1:=Lib.hid hl1
  obtain ⟨kx,hkx⟩:∃kx:Nat,kx+1=xs1.length:=⟨xs1.length-1,by omega⟩
  have HKX:=Lib.hid hkx
  have HIX1:Hid ((kx:Int)=((xs.length+x.size-1:Nat):Int)):=Lib.hid (by omega)
  clear hxs1 hkx hl1
  obtain ⟨xs2,hxs2⟩:∃xs2,xs2=xs1++flat xs1.length y:=⟨_,rfl⟩
  have hl2:xs2.length=xs1.length+y.size:=by rw [hxs2,List.length_append,flat_len]
  have hyp:=y.size_pos
  have HXS2:=Lib.hid hxs2
  have HL2:=Lib.hid hl2
  obtain ⟨ky,hky⟩:∃ky:Nat,ky+1=xs2.length:=⟨xs2.length-1,by omega⟩
  have HKY:=Lib.hid hky
  have HIY1:Hid ((ky:Int)=((xs1.length+y.size-1:Nat):Int)):=Lib.hid (by omega)
  clear hxs2 hky hl2
  have hw1':IntKind.i64.wrap ((0:Int)+1)=1:=by decide
  have hw2':IntKind.i64.wrap ((1:Int)+1)=2:=by decide
  go_wp2_with fail
  go_loopw [2,9,23] (fun s2 s9 s23 wr=>(s2=(.slice A1 xs.length c1)∧s9= .slice none 0 0∧s23= .int .i64 0∧OwnNd w0.heap.size wr (.slice A1 xs.length c1) xs∧Blk wr nb 50 #[.int .i64 kk,.int .i64 (j:Int),.int .i64 (q:Int),.int .i64 0,.string s]∧KV (.slice A1 xs.length c1) (.slice A1 xs.length c1) w wr∧Ext w0 wr∧wr.cell? ⟨b3,0,none⟩=some (.int .i64 (j:Int))∧wr.cell? ⟨b3,1,none⟩=some (.int .i64 (q:Int)))∨(s23= .int .i64 1∧∃ga ca,s9= .slice (some ⟨ga,0,none⟩) 1 ca∧OwnNd w0.heap.size wr s2 xs1∧xs1.length≤200∧Blk wr nb 50 #[.int .i64 kk,.int .i64 (j:Int),.int .i64 (q:Int),.int .i64 0,.string s]∧KV (.slice A1 xs.length c1) s2 w wr∧Ext w0 wr∧RowN w.heap.size wr (.slice (some ⟨ga,0,none⟩) 1 ca) 1 [kx]∧s2.ownBlock≠some nb∧s2.ownBlock≠some ga∧ga≠nb∧wr.cell? ⟨b3,1,none⟩=some (.int .i64 (q:Int)))∨(s23= .int .i64 2∧∃ga ca,s9= .slice (some ⟨ga,0,none⟩) 2 ca∧OwnNd w0.heap.size wr s2 xs2∧xs2.length≤200∧Blk wr nb 50 #[.int .i64 kk,.int .i64 (j:Int),.int .i64 (q:Int),.int .i64 0,.string s]∧KV (.slice A1 xs.length c1) s2 w wr∧Ext w0 wr∧RowN w.heap.size wr (.slice (some ⟨ga,0,none⟩) 2 ca) 2 [kx,ky]∧s2.ownBlock≠some nb∧s2.ownBlock≠some ga∧ga≠nb)) (fun _ _ s23 _=>2-(intOf s23).toNat)
  case atStart=>exact .inl ⟨rfl,rfl,rfl,HR4.out,HNB4.out,HK4.out,HX4.out,y0,y1⟩
  case round=>
   clear HR4 HNB4 HK4 HX4 y0 y1
   rcases hrel with ⟨rfl,rfl,rfl,hrw,hnb,hkg,hxr,y0,y1⟩|⟨rfl,ga,ca,rfl,hrw,hl1,hnb,hkg,hxr,hat,hv1,hv2,hv3,y1⟩|⟨rfl,ga,ca,rfl,hrw,hl1,hnb,hkg,hxr,hat,hv1,hv2,hv3⟩
   ·have HRW:=Lib.hid hrw
    have HNB:=Lib.hid hnb
    have HKG:=Lib.hid hkg
    have HXR:=Lib.hid hxr
    clear hrw hnb hkg hxr
    go_wp2_with fail
    refine (HIX.out wr _ xs HXR.out HRW.out (by omega)).mono ?_
    rintro r w5 (⟨hl5,v5,rfl,hr5,hk5⟩|⟨hl5,A5,n5,c5,rfl,hx5⟩)
    ·rw [←HXS1.out] at hr5
     have HR5:=Lib.hid hr5
     have HK5:=Lib.hid hk5
     have HX5:=Lib.hid (hk5.ext HXR.out HRW.out)
     have HNB5:Hid (Blk w5 nb 50 #[.int .i64 kk,.int .i64 (j:Int),.int .i64 (q:Int),.int .i64 0,.string s]):=Lib.hid ((hk5.block nb HNB.out.lt hvn).trans HNB.out)
     have hvn5:v5.ownBlock≠some nb:=fun e=>by
      rcases hk5.move nb e with h|h
      ·exact hvn h
      ·have:=HNB.out.lt;omega
     have hvlt:∀k,v5.ownBlock=some k→k<w5.heap.size:=fun k hk=>ownsRow_ltG hr5 hk
     have hnlt:nb<w5.heap.size:=HNB5.out.lt
     have HA5:Hid (RowN w.heap.size w5 (.slice none 0 0) 0 []):=Lib.hid (RowN.nil _ _)
     have HY1:Hid (w5.cell? ⟨b3,1,none⟩=some (.int .i64 (q:Int))):=Lib.hid ((World.cell?_of_block (a:=⟨b3,1,none⟩) (hk5.block b3 (World.block_lt_of_cell? wr _ y1) HB3.out.1)).trans y1)
     obtain ⟨A5,c5,rfl⟩:=hr5.shape
     have hlx:xs1.length≤200:=by have h1:=HL1.out;omega
     clear hr5 hk5 y0 y1
     have hwx:IntKind.i64.wrap ((xs1.length:Int)-1)=(kx:Int):=by have h1:=HKX.out;rw [IntWalk.i64_in _ (by omega)];omega
     have HRA:Hid ((w5.alloc (.cells #[.int .i64 (kx:Int)] 3)).ownsRow w.heap.size 3 1 (.slice none 0 0) 0 (([]:List Nat).map din)):=Lib.hid (ownsRow_below HA5.out (fun k _ hk=>Below.heap_alloc _ _ k hk))
     have HNW:=Lib.hid (newsL w5 3 [.int .i64 (kx:Int)])
     have HBB1:Hid (0+1≤maxLen):=Lib.hid (by unfold maxLen;omega)
     have HBB2:Hid ((0+1)*8≤140737488355328):=Lib.hid (by omega)
     have HBB3:Hid (w.heap.size≤(w5.alloc (.cells #[.int .i64 (kx:Int)] 3)).heap.size):=Lib.hid (by have:=HKG.out.size;have:=HK5.out.size;simp;omega)
     go_wp2_with (at_builtin;go_must (refine wpList_append_lies _ rfl _ _ 22 rfl w.heap.size 3 j0 _ 1 8 Tryz.underlying22 jif jz0 jz1 jz2 rfl (by decide) (.slice none 0 0) 0 (([]:List Nat).map din) rfl HRA.out ⟨w5.heap.size,0,none⟩ 1 1 [.int .i64 (kx:Int)] rfl rfl HNW.out (by simp [Value.oneCell']) (by decide) HBB1.out HBB2.out HBB3.out _ rfl ?_;intro g6 c6 w6 hown6 hgr6 hat6 hlt6;have HE6:Hid (Ext w5 w6∧g6=w5.heap.size+1∧RowN w.heap.size w6 (.slice (some ⟨g6,0,none⟩) 1 c6) 1 [kx]):=Lib.hid ⟨⟨hgr6.os,hgr6.tape,hgr6.output,(by have:=hgr6.size;simp at this;omega),fun k hk=>(hgr6.block k (by simp;omega) (by simp [Value.ownBlock])).trans (Below.heap_alloc _ _ k hk)⟩,(by rcases hat6 with h|h;exact absurd h (by simp [Value.ownBlock]);simpa using h),hown6⟩;clear hown6 hgr6 hat6 hlt6))
     go_roundw
     case rel=>
      have e6:=HE6.out.2.1
      exact .inr (.inl ⟨by go_num,g6,c6,rfl,HR5.out.ext HE6.out.1,hlx,HNB5.out.ext HE6.out.1,(HKG.out.trans HK5.out).above (HE6.out.1.mono (by have:=HKG.out.size;have:=HK5.out.size;omega)),HX5.out.trans HE6.out.1,HE6.out.2.2,hvn5,fun e=>by have:=hvlt g6 e;omega,by omega,HE6.out.1.keep HY1.out⟩)
     case measure=>simp [intOf]
    ·have HXF:=Lib.hid hx5
     have hbig:200<xs.length+(x.size+y.size+1):=by have h1:=HL1.out;omega
     clear hx5 hl5
     go_wp2_with fail
     go_ret2
     exact .inr ⟨hbig,_,_,_,rfl,HXF.out⟩
   ·have HRW:=Lib.hid hrw
    have HNB:=Lib.hid hnb
    have HKG:=Lib.hid hkg
    have HXR:=Lib.hid hxr
    clear hrw hnb hkg hxr
    obtain ⟨A2,c2,rfl⟩:=HRW.out.shape
    have HAT:=Lib.hid hat
    clear hat
    go_wp2_with fail
    refine (HIY.out wr _ xs1 HXR.out HRW.out (by omega)).mono ?_
    rintro r w5 (⟨hl5,v5,rfl,hr5,hk5⟩|⟨hl5,A5,n5,c5,rfl,hx5⟩)
    ·rw [←HXS2.out] at hr5
     have HR5:=Lib.hid hr5
     have HK5:=Lib.hid hk5
     have HX5:=Lib.hid (hk5.ext HXR.out HRW.out)
     have HNB5:Hid (Blk w5 nb 50 #[.int .i64 kk,.int .i64 (j:Int),.int .i64 (q:Int),.int .i64 0,.string s]):=Lib.hid ((hk5.block nb HNB.out.lt hv1).trans HNB.out)
     have hvn5:v5.ownBlock≠some nb:=fun e=>by
      rcases hk5.move nb e with h|h
      ·exact hv1 h
      ·have:=HNB.out.lt;omega
     have hvlt:∀k,v5.ownBlock=some k→k<w5.heap.size:=fun k hk=>ownsRow_ltG hr5 hk
     have hnlt:nb<w5.heap.size:=HNB5.out.lt
     have hgalt:=(HAT.out.blt ga rfl).2
     have HA5:Hid (RowN w.heap.size w5 (.slice (some ⟨ga,0,none⟩) 1 ca) 1 [kx]):=Lib.hid (HAT.out.atG (fun k hk=>hk5.block k (by have h9:ga=k:=Option.some.inj hk;omega) (fun e=>hv2 (by have h9:ga=k:=Option.some.inj hk;rw [h9];exact e))))
     have hv5g:v5.ownBlock≠some ga:=fun e=>by
      rcases hk5.move ga e with h|h
      ·exact hv2 h
      ·omega
     have hga0:=(HAT.out.blt ga rfl).1
     obtain ⟨A5,c5,rfl⟩:=hr5.shape
     have hlx:xs2.length≤200:=by have h1:=HL1.out;have h2:=HL2.out;omega
     clear hr5 hk5 y1
     have hwx:IntKind.i64.wrap ((xs2.length:Int)-1)=(ky:Int):=by have h1:=HKY.out;rw [IntWalk.i64_in _ (by omega)];omega
     have HRA:Hid ((w5.alloc (.cells #[.int .i64 (ky:Int)] 3)).ownsRow w.heap.size 3 1 (.slice (some ⟨ga,0,none⟩) 1 ca) 1 ([kx].map din)):=Lib.hid (ownsRow_below HA5.out (fun k _ hk=>Below.heap_alloc _ _ k hk))
     have HNW:=Lib.hid (newsL w5 3 [.int .i64 (ky:Int)])
     have HBB1:Hid (1+1≤maxLen):=Lib.hid (by unfold maxLen;omega)
     have HBB2:Hid ((1+1)*8≤140737488355328):=Lib.hid (by omega)
     have HBB3:Hid (w.heap.size≤(w5.alloc (.cells #[.int .i64 (ky:Int)] 3)).heap.size):=Lib.hid (by have:=HKG.out.size;have:=HK5.out.size;simp;omega)
     go_wp2_with (at_builtin;go_must (refine wpList_append_lies _ rfl _ _ 22 rfl w.heap.size 3 j0 _ 1 8 Tryz.underlying22 jif jz0 jz1 jz2 rfl (by decide) (.slice (some ⟨ga,0,none⟩) 1 ca) 1 ([kx].map din) rfl HRA.out ⟨w5.heap.size,0,none⟩ 1 1 [.int .i64 (ky:Int)] rfl rfl HNW.out (by simp [Value.oneCell']) (by decide) HBB1.out HBB2.out HBB3.out _ rfl ?_;intro g6 c6 w6 hown6 hgr6 hat6 hlt6;have HE6:Hid ((∀k,k<w5.heap.size→k≠ga→w6.heap[k]? =w5.heap[k]?)∧Below w.heap.size w5 w6∧(g6=ga∨g6=w5.heap.size+1)∧RowN w.heap.size w6 (.slice (some ⟨g6,0,none⟩) 2 c6) 2 [kx,ky]):=Lib.hid ⟨fun k hk hne=>(hgr6.block k (by simp;omega) (fun e=>hne (Option.some.inj e))).trans (Below.heap_alloc _ _ k hk),Below.grown ((Below.refl _ w5).alloc (by have:=HKG.out.size;have:=HK5.out.size;omega) _) hgr6 (by have:=HKG.out.size;have:=HK5.out.size;simp;omega) (fun k hk=>by have h9:ga=k:=Option.some.inj hk;omega),(by rcases hat6 with h|h;exact .inl (Option.some.inj h).symm;exact .inr (by simpa using h)),hown6⟩;clear hown6 hgr6 hat6 hlt6))
     go_roundw
     case rel=>
      refine .inr (.inr ⟨by go_num,g6,c6,rfl,?_,hlx,?_,(HKG.out.trans HK5.out).above HE6.out.2.1,?_,HE6.out.2.2.2,hvn5,?_,?_⟩)
      ·exact ownsRow_at HR5.out (fun k hk=>HE6.out.1 k (hvlt k hk) (fun e=>hv5g (by rw [←e];exact hk)))
      ·exact (HE6.out.1 nb hnlt (fun e=>hv3 e.symm)).trans HNB5.out
      ·exact HX5.out.more (Below.mono HE6.out.2.1 hwz)
      ·intro e
       rcases HE6.out.2.2.1 with h|h
       ·exact hv5g (by rw [←h];exact e)
       ·have:=hvlt g6 e;omega
      ·rcases HE6.out.2.2.1 with h|h
       ·rw [h];exact hv3
       ·omega
     case measure=>simp [intOf]
    ·have HXF:=Lib.hid hx5
     have hbig:200<xs.length+(x.size+y.size+1):=by have h1:=HL1.out;omega
     clear hx5 hl5
     go_wp2_with fail
     go_ret2
     exact .inr ⟨hbig,_,_,_,rfl,HXF.out⟩
   ·have HRW:=Lib.hid hrw
    have HNB:=Lib.hid hnb
    have HKG:=Lib.hid hkg
    have HXR:=Lib.hid hxr
    clear hrw hnb hkg hxr
    obtain ⟨A2,c2,rfl⟩:=HRW.out.shape
    have HAT:=Lib.hid hat
    have t0:=HAT.out.get 0 (by decide)
    have t1:=HAT.out.get 1 (by decide)
    have t1b:=(World.cell?_of_block (a:=⟨ga,1,none⟩) (Below.heap_setCell wr ⟨nb,1,none⟩ (.int .i64 (kx:Int)) ga hv3)).trans t1
    obtain ⟨q0,q1,q2,q3,q4⟩:=HNB.out.five
    have f1:=HNB.out.frozen 1
    have HNBA:=Lib.hid (HNB.out.set_ 1 (.int .i64 (kx:Int)))
    have f2:=HNBA.out.frozen 2
    obtain ⟨r0,r1,r2,r3,r4⟩:=Blk.five HNBA.out
    have HNBB:=Lib.hid (Blk.set_ HNBA.out 2 (.int .i64 (ky:Int)))
    have hrz:OwnNd w0.heap.size ((wr.setCell ⟨nb,1,none⟩ (.int .i64 (kx:Int))).setCell ⟨nb,2,none⟩ (.int .i64 (ky:Int))) (.slice A2 xs2.length c2) xs2:=ownsRow_at HRW.out (fun k hk=>(Below.heap_setCell _ _ _ k (fun e=>hv1 (by have e2:k=nb:=e;rw [←e2];exact hk))).trans (Below.heap_setCell _ _ _ k (fun e=>hv1 (by have e2:k=nb:=e;rw [←e2];exact hk))))
    have hkz:KV (.slice A1 xs.length c1) (.slice A2 xs2.length c2) w ((wr.setCell ⟨nb,1,none⟩ (.int .i64 (kx:Int))).setCell ⟨nb,2,none⟩ (.int .i64 (ky:Int))):=HKG.out.above (Below.setCell (Below.setCell (Below.refl _ wr) (p:=⟨nb,1,none⟩) HN1.out.1 _) (p:=⟨nb,2,none⟩) HN1.out.1 _)
    have hxz:Ext w0 ((wr.setCell ⟨nb,1,none⟩ (.int .i64 (kx:Int))).setCell ⟨nb,2,none⟩ (.int .i64 (ky:Int))):=(HXR.out.setCell (p:=⟨nb,1,none⟩) HN1.out.2 _).setCell (p:=⟨nb,2,none⟩) HN1.out.2 _
    have hnz:Blk ((wr.setCell ⟨nb,1,none⟩ (.int .i64 (kx:Int))).setCell ⟨nb,2,none⟩ (.int .i64 (ky:Int))) nb 50 #[.int .i64 kk,.int .i64 (kx:Int),.int .i64 (ky:Int),.int .i64 0,.string s]:=HNBB.out
    clear hat
    go_upto_region 16 with fail
    generalize hwz9:(wr.setCell ⟨nb,1,none⟩ (.int .i64 (kx:Int))).setCell ⟨nb,2,none⟩ (.int .i64 (ky:Int))=wz at *
    have HRWz:=Lib.hid hrz
    have HKGz:=Lib.hid hkz
    have HXRz:=Lib.hid hxz
    have HNBz:=Lib.hid hnz
    clear hrz hkz hxz hnz HRW HKG HXR HNB HNBA hwz9 q0 q1 q2 q3 q4 f1 t0 t1 t1b f2 r0 r1 r2 r3 r4 HNBB
    have HRW:=HRWz
    have HKG:=HKGz
    have HXR:=HXRz
    have HNB:=HNBz
    obtain ⟨m2,hm2⟩:∃m2,m2=xs2.length:=⟨_,rfl⟩
    have HLN:=Lib.hid hm2
    rw [←hm2] at HRW HKG hl1 ⊢
    clear hm2 HRWz HKGz HXRz HNBz
    unfold UnPost
    have hwz2:=HXR.out.size
    have HRA:Hid ((wz.alloc (.cells #[.int .i64 kk,.int .i64 (kx:Int),.int .i64 (ky:Int),.int .i64 0,.string s] 50)).ownsRow w0.heap.size 50 5 (.slice A2 m2 c2) m2 (ndsC xs2)):=Lib.hid (ownsRow_below (by have h:=HRW.out;unfold OwnNd at h;rw [←HLN.out] at h;exact h) (fun k _ hk=>Below.heap_alloc _ _ k hk))
    have HNW:=Lib.hid (newsL wz 50 [.int .i64 kk,.int .i64 (kx:Int),.int .i64 (ky:Int),.int .i64 0,.string s])
    have HBB1:Hid (m2+1≤maxLen):=Lib.hid (by unfold maxLen;omega)
    have HBB2:Hid ((m2+1)*48≤140737488355328):=Lib.hid (by omega)
    have HBB3:Hid (w0.heap.size≤(wz.alloc (.cells #[.int .i64 kk,.int .i64 (kx:Int),.int .i64 (ky:Int),.int .i64 0,.string s] 50)).heap.size):=Lib.hid (by simp;omega)
    have HNX:=Lib.hid (fun w6 g6 c6 o hgr hat=>un_next (w':=w6) (g6:=g6) (c6:=c6) (o:=o) HXR.out HRW.out hgr hat)
    obtain ⟨q0,q1,q2,q3,q4⟩:=HNB.out.five
    by_cases hle:m2+1≤200
    all_goals
     first
      |have hdl:decide ((m2:Int)+1≤200)=true:=decide_eq_true (by omega)
      |have hdl:decide ((m2:Int)+1≤200)=false:=decide_eq_false (by omega)
     go_wp2_with (at_builtin;go_must (refine wpList_append_lies _ rfl _ _ 25 rfl w0.heap.size 50 i0 _ 5 48 Tryz.underlying25 hif hz0 hz1 hz2 rfl (by decide) (.slice A2 m2 c2) m2 (ndsC xs2) rfl HRA.out ⟨wz.heap.size,0,none⟩ 1 1 [.int .i64 kk,.int .i64 (kx:Int),.int .i64 (ky:Int),.int .i64 0,.string s] rfl rfl HNW.out (by simp [Value.oneCell']) (by decide) HBB1.out HBB2.out HBB3.out _ rfl ?_;intro g6 c6 w6 hown6 hgr6 hat6 hlt6;have HO6:Hid (OwnNd w0.heap.size w6 (.slice (some ⟨g6,0,none⟩) (xs2.length+1) c6) (xs2++[⟨kk,(kx:Int),(ky:Int),0,[]⟩])):=Lib.hid (by unfold OwnNd;rw [ndsC_append,ndsC_one,HNC.out,List.length_append,List.length_singleton,←HLN.out];exact hown6);have HFF:=Lib.hid (HNX.out w6 g6 c6 _ hgr6 hat6);clear hown6 hgr6 hat6 hlt6;rw [←HLN.out] at HFF HO6))
     go_ret2
    ·have e:=HLN.out
     subst e
     refine .inl ⟨by have h1:=HL1.out;have h2:=HL2.out;simp only [Ex.size];omega,_,rfl,?_,HKG.out.trans HFF.out.1⟩
     have h:=HO6.out
     rw [flat,hkk,←HIX1.out,←HL1.out,←List.append_assoc,←HXS1.out,←List.append_assoc,←HXS2.out,←HIY1.out]
     exact h
    ·have e:=HLN.out
     subst e
     exact .inr ⟨by have h1:=HL1.out;have h2:=HL2.out;simp only [Ex.size];omega,_,_,_,rfl,HFF.out.2⟩
end Big
end Go.Proofs.YtaccjdbbkmhanaaGreatDoor
namespace Go.Proofs.YtaccjdbbkmhanaaGreatDoor
namespace Big
open Go.RowKit
set_option maxHeartbeats 4000000 in
set_option maxRecDepth 100000 in
theorem gexpr_any (B g b:Nat) (w:World) (ns:List Nd) (nv:Value) (h:GrP B g b w ns nv) (i:Int):
  Calls Tryz.prog 23 #[.pointer (some ⟨g,0,none⟩),.int .i64 i] w (ExprPost ns i w):=by
 by_cases hi:0≤i∧i<(ns.length:Int)
 ·obtain ⟨k,rfl⟩:∃k:Nat,(k:Int)=i:=⟨i.toNat,by omega⟩
  exact gexpr_in B g b w ns nv h k (by omega)
 have HO:=Lib.hid (ExprG.out (ns:=ns) (i:=i) (by omega))
 have HB1:=Lib.hid (Blk.new w 29 #[.pointer (some ⟨g,0,none⟩)])
 have HX1:=Lib.hid ((Ext.refl w).alloc (.cells #[.pointer (some ⟨g,0,none⟩)] 29))
 obtain ⟨bg,hbg2⟩:∃bg,bg=w.heap.size:=⟨_,rfl⟩
 obtain ⟨w1,hw1⟩:∃w1,w1=w.alloc (.cells #[.pointer (some ⟨g,0,none⟩)] 29):=⟨_,rfl⟩
 rw [←hw1,←hbg2] at HB1
 rw [←hw1] at HX1
 obtain ⟨k0,k1,_,_,hgz⟩:=(h.keep HX1.out).blk.twoG
 obtain ⟨A,c,rfl⟩:=h.row.shape
 obtain ⟨g0,gf0,ghz⟩:=HB1.out.oneG
 clear h
 by_cases h0:i<0
 ·have hd:decide (i<0)=true:=decide_eq_true h0
  clear hi
  go_enter Tryz.func23,Tryz.ntmps23
  go_upto_region 1 with fail
  rw [←hw1,←hbg2]
  clear hw1 hbg2
  go_wp2_with fail
  go_ret2
  exact ⟨_,[],1,rfl,RNd.nilG _,HO.out,by decide,HX1.out⟩
 ·have hd:decide (i<0)=false:=decide_eq_false h0
  have h1:(ns.length:Int)≤i:=by omega
  have hd2:decide (i≥(ns.length:Int))=true:=decide_eq_true h1
  have hd3:decide ((ns.length:Int)≤i)=true:=decide_eq_true h1
  clear hi
  go_enter Tryz.func23,Tryz.ntmps23
  go_upto_region 1 with fail
  rw [←hw1,←hbg2]
  clear hw1 hbg2
  go_wp2_with fail
  go_ret2
  exact ⟨_,[],1,rfl,RNd.nilG _,HO.out,by decide,HX1.out⟩
set_option maxHeartbeats 4000000 in
set_option maxRecDepth 100000 in
theorem rexprG_any (B g:Nat) (w:World) (ns:List Nd) (rv:Value) (h:GrR B g w ns rv) (i:Int):
  Calls Tryz.prog 24 #[.pointer (some ⟨g,0,none⟩),.int .i64 i] w (ExprPost ns i w):=by
 have HHA:=Lib.hid (has_any B g w ns rv h i)
 by_cases hi:0≤i∧i<(ns.length:Int)
 ·rw [decide_eq_true hi] at HHA
  obtain ⟨k,rfl⟩:∃k:Nat,(k:Int)=i:=⟨i.toNat,by omega⟩
  have hk:k<ns.length:=by omega
  obtain ⟨e,hgd,hrep⟩:=h.ok.rep k hk
  have HDE:=Lib.hid (fun W (hx:Ext w W)=>rdepth_any B g W ns rv (h.keep hx) (k:Int))
  rw [depthV_in hk,deepG_rep h.ok hgd hrep] at HDE
  have HUN:=Lib.hid (fun W (hx:Ext w W)=>unfold_any B g w ns rv h e k W (.slice none 0 0) [] hgd hrep hx (OwnNd.nil _ _) (by decide))
  have HOK:=Lib.hid (fun h1 h2=>ExprG.ok hk hgd hrep h1 h2)
  have HBI:=Lib.hid (fun h1=>ExprG.big hk hgd hrep h1)
  clear h hgd hrep hi
  by_cases h2:e.depth≤40
  ·have ht1:decide ((e.depth:Int)>40)=false:=decide_eq_false (by omega)
   have ht2:decide ((40:Int)<(e.depth:Int))=false:=decide_eq_false (by omega)
   have ht3:decide (40<e.depth)=false:=decide_eq_false (by omega)
   go_enter Tryz.func24,Tryz.ntmps24
   go_wp2_with fail
   refine HHA.out.mono ?_
   rintro r w1 ⟨rfl,hx1⟩
   have HX1:=Lib.hid hx1
   clear hx1
   go_wp2_with fail
   refine (HDE.out _ HX1.out).mono ?_
   rintro r w2 ⟨rfl,hx2⟩
   have HX2:=Lib.hid (HX1.out.trans hx2)
   clear hx2
   go_wp2_with fail
   refine (HUN.out _ HX2.out).mono ?_
   rintro r w3 (⟨hl,v3,rfl,ho,hk3⟩|⟨hl,A3,n3,c3,rfl,hx3⟩)
   ·rw [List.nil_append,List.length_nil] at ho
    have hl':e.size≤200:=by rw [List.length_nil] at hl;omega
    have HO3:=Lib.hid ho
    have HX3:=Lib.hid (hk3.ext HX2.out (OwnNd.nil _ _) (l:=[]))
    have HOE:=Lib.hid (HOK.out hl' h2)
    obtain ⟨A3,c3,rfl⟩:=ho.shape
    clear ho hk3 hl
    go_wp2_with fail
    go_ret2
    exact ⟨_,_,0,rfl,HO3.out.read,HOE.out,by rw [flat_len];exact hl',HX3.out⟩
   ·have HX3:=Lib.hid hx3
    have HBB:=Lib.hid (HBI.out (fun h=>by rw [List.length_nil] at hl;omega))
    clear hx3 hl
    go_wp2_with fail
    go_ret2
    exact ⟨_,[],7,rfl,RNd.nilG _,HBB.out,by decide,HX3.out⟩
  ·have ht1:decide ((e.depth:Int)>40)=true:=decide_eq_true (by omega)
   have ht2:decide ((40:Int)<(e.depth:Int))=true:=decide_eq_true (by omega)
   have ht3:decide (40<e.depth)=true:=decide_eq_true (by omega)
   have HBB:=Lib.hid (HBI.out (fun h=>h2 h.2))
   clear HUN HOK HBI h2
   go_enter Tryz.func24,Tryz.ntmps24
   go_wp2_with fail
   refine HHA.out.mono ?_
   rintro r w1 ⟨rfl,hx1⟩
   have HX1:=Lib.hid hx1
   clear hx1
   go_wp2_with fail
   refine (HDE.out _ HX1.out).mono ?_
   rintro r w2 ⟨rfl,hx2⟩
   have HX2:=Lib.hid (HX1.out.trans hx2)
   clear hx2
   go_wp2_with fail
   go_ret2
   exact ⟨_,[],7,rfl,RNd.nilG _,HBB.out,by decide,HX2.out⟩
 ·rw [decide_eq_false hi] at HHA
  have HO:=Lib.hid (ExprG.out (ns:=ns) (i:=i) (by omega))
  clear h hi
  go_enter Tryz.func24,Tryz.ntmps24
  go_wp2_with fail
  refine HHA.out.mono ?_
  rintro r w1 ⟨rfl,hx1⟩
  have HX1:=Lib.hid hx1
  clear hx1
  go_wp2_with fail
  go_ret2
  exact ⟨_,[],1,rfl,RNd.nilG _,HO.out,by decide,HX1.out⟩
end Big
end Go.Proofs.YtaccjdbbkmhanaaGreatDoor
namespace Go.Proofs.YtaccjdbbkmhanaaGreatDoor
namespace Big
open Go
section
variable {P:Program} {ops:Array Oper} {Q:Exit→Act→World→Prop} {md:Region.Mode} {S:World→Prop}
theorem held_of {S':World→Prop} (hs:∀w,S' w→S w):∀(fuel:Nat) (listed:Array Bool) (a:Act) (w:World),wpAnyH P md ops Q S' fuel listed a w→wpAnyH P md ops Q S fuel listed a w
 |0,_,_,_,h=>h
 |fuel+1,_,_,_,h=>⟨h.1,fun i hi=>wpOp_mono (fun _ _ h'=>⟨hs _ h'.1,held_of hs fuel _ _ _ h'.2⟩) (h.2 i hi)⟩
def QCall (P:Program) (ops:Array Oper) (S:World→Prop) (o:Oper) (v:Value) (a:Act):Prop:=
 Region.wanted o (yielded ops a.tmps)=true∧∀w,S w→∃f args,(execOp a.eval o).run P w= .ok (.enter f args) w∧Calls P f args w fun e w'=>e= .returned v∧w=w'
theorem QCall.now {i:Nat} {o:Oper} {v:Value} {a:Act} (hi:ops[i]? =some o) (h:QCall P ops S o v a) {K:Act→World→Prop} {w:World} (hS:S w) (hk:K (a.put o.dst v) w):wpOp P ops Q i K a w:=by
 obtain ⟨hw,hc⟩:=h
 obtain ⟨f,args,hr,hc⟩:=hc w hS
 unfold wpOp
 simp only [hi,hw,if_true]
 refine .inl ?_
 unfold Oper.wp
 rw [hr,Oper.upon_enter]
 refine hc.mono ?_
 rintro e w' ⟨rfl,rfl⟩
 exact hk
theorem QCall.past {j:Nat} {oi oj:Oper} {v:Value} (hj:ops[j]? =some oj) (hap:oi.apart ops oj=true) (hsi:∀cs b,oi.op≠ .select cs b) (hsj:∀cs b,oj.op≠ .select cs b)
  (hQ:∀c a w,Q (.panic c) (a.put oi.dst v) w→Q (.panic c) a w) {K:Act→World→Prop} {a:Act} {w:World} (hy:QCall P ops S oi v a) (h:wpOp P ops Q j K (a.put oi.dst v) w):
  wpOp P ops Q j (fun a' w'=>QCall P ops S oi v a'∧K (a'.put oi.dst v) w') a w:=by
 obtain ⟨h1,h2,h3⟩:=Oper.apart_spec hap
 have hput:∀(b:Act) u,QCall P ops S oi v b→QCall P ops S oi v (b.put oj.dst u):=by
  intro b u hb
  unfold QCall at *
  rw [execOp_put oi hsi b oj.dst u h3,wanted_put oi b oj.dst u h3]
  exact hb
 have hfin:∀(b:Act) u w',QCall P ops S oi v b→K ((b.put oi.dst v).put oj.dst u) w'→QCall P ops S oi v (b.put oj.dst u)∧K ((b.put oj.dst u).put oi.dst v) w':=
  fun b u w' hb hk=>⟨hput b u hb,by rw [←Act.put_comm b v u h2];exact hk⟩
 unfold wpOp at *
 simp only [hj] at *
 rw [wanted_put oj a oi.dst v h1] at h
 by_cases hw:Region.wanted oj (yielded ops a.tmps)=true
 ·rw [if_pos hw] at h ⊢
  rcases h with h|⟨hq,hl⟩
  ·refine .inl ?_
   unfold Oper.wp at *
   rw [execOp_put oj hsj a oi.dst v h1] at h
   revert h
   rcases (execOp a.eval oj).run P w with ⟨n,w'⟩|⟨x,w'⟩
   ·cases n
    case value u=>exact hfin a u w' hy
    case skip=>exact hfin a undef w' hy
    case defer d=>
     intro h
     refine hfin { a with defers:=d::a.defers } undef w' hy ?_
     rw [←Act.put_defers]
     exact h
    case enter f args=>
     refine fun h=>Calls.mono h fun e w'' he=> ?_
     cases e with
     |returned u=>exact hfin a u w'' hy he
     |panicked c=>exact hQ _ _ _ he
     |outgrown=>exact he
    case row r args=>exact fun h=>Rows.mono h fun u w'' he=>hfin a u w'' hy he
    all_goals exact fun h=>h
   ·cases x<;>simp only [Oper.upon]<;>first|exact fun h=>h|exact hQ _ _ _
  ·exact .inr ⟨by unfold Oper.asks at *;rw [execOp_put oj hsj a oi.dst v h1] at hq;exact hq,hl⟩
 ·rw [if_neg hw] at h ⊢
  exact hfin a undef w hy h
theorem QCall.first {i:Nat} {oi:Oper} {v:Value} (hi:ops[i]? =some oi) (hsel:∀(j:Nat) (o:Oper) cs b,ops[j]? =some o→o.op≠ .select cs b)
  (hQ:∀c a w,Q (.panic c) (a.put oi.dst v) w→Q (.panic c) a w) (fuel:Nat):∀(listed:Array Bool) (a:Act) (w:World),
   (∀j oj,ops[j]? =some oj→j≠i→listed.getD j true=false→(∀e∈oj.after,Region.binds md e=true→e.on≠i)→oi.apart ops oj=true)→
   i∈Region.ready md ops listed→QCall P ops S oi v a→S w→
   wpAnyH P md ops Q S fuel (listed.setIfInBounds i true) (a.put oi.dst v) w→wpAnyH P md ops Q S (fuel+1) listed a w:=by
 induction fuel with
 |zero=>
  intro listed a w _ hr hy hS H
  refine ⟨fun h=>absurd hr (by rw [h];simp),fun j hj=> ?_⟩
  by_cases hji:j=i
  ·subst hji
   exact hy.now hi hS ⟨hS,H⟩
  ·exact absurd (ready_mono hj hji) (by rw [H.1];simp)
 |succ n ih=>
  intro listed a w hfree hr hy hS H
  refine ⟨fun h=>absurd hr (by rw [h];simp),fun j hj=> ?_⟩
  by_cases hji:j=i
  ·subst hji
   exact hy.now hi hS ⟨hS,H⟩
  obtain ⟨hjun,oj,hoj,hall⟩:=mem_ready.1 hj
  have hiun:=(mem_ready.1 hr).1
  have hnot:∀e∈oj.after,Region.binds md e=true→e.on≠i:=by
   intro e he hb heq
   have ht:=hall e he hb
   subst heq
   by_cases hs:e.on<listed.size
   ·simp [hs] at hiun ht
    rw [hiun] at ht
    cases ht
   ·simp [Array.getElem?_eq_none (Nat.le_of_not_lt hs)] at ht
  have hp:=QCall.past (S:=S) hoj (hfree j oj hoj hji hjun hnot) (fun cs b=>hsel i oi cs b hi) (fun cs b=>hsel j oj cs b hoj) hQ hy (H.2 j (ready_mono hj hji))
  refine wpOp_mono (fun a' w' h3=>⟨h3.2.1,ih _ a' w' ?_ (ready_mono hr (Ne.symm hji)) h3.1 h3.2.1 ?_⟩) hp
  ·intro k ok hk hki hun hno
   refine hfree k ok hk hki ?_ hno
   by_cases hjk:j=k
   ·subst hjk
    exact hjun
   ·rw [Go.getD_set_ne true hjk] at hun
    exact hun
  ·rw [Array.setIfInBounds_comm _ _ hji]
   exact h3.2.2
theorem qcall_take {i:Nat} {oi:Oper} {v:Value} {fuel:Nat} {listed:Array Bool} {a:Act} {w:World} (hi:ops[i]? =some oi)
  (hs:Region.noSelect ops=true) (hf:Region.free md ops listed i=true) (hr:(Region.ready md ops listed).contains i=true)
  (hQ:∀c a w,Q (.panic c) (a.put oi.dst v) w→Q (.panic c) a w) (hy:QCall P ops S oi v a) (hS:S w)
  (h:wpAnyH P md ops Q S fuel (listed.setIfInBounds i true) (a.put oi.dst v) w):wpAnyH P md ops Q S (fuel+1) listed a w:=
 QCall.first hi (Region.noSelect_spec hs) hQ fuel listed a w (Region.free_spec hi hf) (by simpa using hr) hy hS h
end
end Big
end Go.Proofs.YtaccjdbbkmhanaaGreatDoor
