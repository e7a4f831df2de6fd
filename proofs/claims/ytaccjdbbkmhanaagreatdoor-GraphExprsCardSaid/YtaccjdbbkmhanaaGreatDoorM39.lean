import Derived.Test.YtaccjdbbkmhanaaGreatDoorM38
import Derived.Test.YtaccjdbbkmhanaaGreatDoorM9
import Derived.Test.YtaccjdbbkmhanaaGreatDoorM10
import Derived.Deep.CutBlock
import Derived.Test.YtaccjdbbkmhanaaGreatDoorShelf5
import Derived.Test.YtaccjdbbkmhanaaGreatDoorM31
namespace Go.Proofs.YtaccjdbbkmhanaaGreatDoor
namespace Big
open Go.RowKit
theorem RowN.shape {B n:Nat} {w:World} {v:Value} {S:List Nat} (h:RowN B w v n S):∃A c,v= .slice A n c:=ownsRow_shape h
theorem RowN.pos {B n:Nat} {w:World} {v:Value} {S:List Nat} (h:RowN B w v n S) (hn:0<n):∃g c,v= .slice (some ⟨g,0,none⟩) n c:=by
 rcases h.2 with ⟨_,h2⟩|⟨g,cap,cur,hv,_⟩
 ·omega
 ·exact ⟨g,cap,hv⟩
theorem RowN.nil (B:Nat) (w:World):RowN B w (.slice none 0 0) 0 []:=World.ownsRow_nil w B _ 1
def RIdsInv (B g:Nat) (ns:List Nd) (rv:Value) (e:Ex) (w:World) (i:Nat) (at_:Value) (wr:World):Prop:=
 ∃rv',KG g g rv rv' w wr∧GrR B g wr (foldG ([],ns) ((flat 0 e).take i)).2 rv'∧RowN w.heap.size wr at_ i (foldG ([],ns) ((flat 0 e).take i)).1∧Apart rv' at_
theorem RIdsInv.start {B g:Nat} {ns:List Nd} {rv:Value} {e:Ex} {w w1:World} (h:GrR B g w ns rv) (hx:Ext w w1):RIdsInv B g ns rv e w 0 (.slice none 0 0) w1:=
 ⟨rv,KG.of_ext hx,by rw [List.take_zero];exact h.keep hx,by rw [List.take_zero];exact RowN.nil _ _,fun _ _ h2=>by cases h2⟩
theorem RIdsInv.next {B g i g6:Nat} {ns gs:List Nd} {rv rv1 rv2:Value} {e:Ex} {w wr w1 w2 w6:World} {at_ at2:Value} {ids:List Nat} {o:Obj} {x:Nd} (h0:GrR B g w ns rv)
  (hst:foldG ([],ns) ((flat 0 e).take (i+1))=(ids++[(putG gs (liftG ids x)).1],(putG gs (liftG ids x)).2))
  (h1:KG g g rv rv1 w wr) (ha:Apart rv1 at_) (hr:RowN w.heap.size wr at_ i ids) (hx:Ext wr w1) (hk:KG g g rv1 rv2 w1 w2) (hp:GrR B g w2 (putG gs (liftG ids x)).2 rv2)
  (hgr:(w2.alloc o).grownBy w6 at_.ownBlock) (hat:at_.ownBlock=some g6∨g6=(w2.alloc o).heap.size) (hu:at2.ownBlock=some g6)
  (hn:RowN w.heap.size w6 at2 (i+1) (ids++[(putG gs (liftG ids x)).1])):RIdsInv B g ns rv e w (i+1) at2 w6:=by
 have hs:(w2.alloc o).heap.size=w2.heap.size+1:=by simp
 have hgw:=h0.lt
 have hk1:=(KG.of_ext hx).trans hk
 have hsz:=h1.size
 have hsz1:=hk1.size
 have hag:at_.ownBlock≠some g:=fun he=>by have:=(hr.blt g he).1;omega
 have hap:∀j,rv2.ownBlock=some j→at_.ownBlock≠some j:=fun j hj he=>by
  rcases hk1.move j hj with h5|h5
  ·exact ha j h5 he
  ·have:=(hr.blt j he).2;omega
 have hkeep:∀j,j<w2.heap.size→at_.ownBlock≠some j→w6.heap[j]? =w2.heap[j]? :=fun j hj hne=>(hgr.block j (by omega) (fun e=>hne e.symm)).trans (Below.heap_alloc w2 o j hj)
 have hsz6:=hgr.size
 have hg2:=hp.lt
 refine ⟨rv2,?_,?_,?_,?_⟩
 ·have k2:=h1.trans hk1
  refine ⟨hgr.os.trans k2.os,hgr.tape.trans k2.tape,hgr.output.trans k2.output,by omega,fun k p1 p2 p3 p4=>(hkeep k (by have:=k2.size;omega) (fun he=>by have:=(hr.blt k he).1;omega)).trans (k2.block k p1 p2 p3 p4),k2.move⟩
 ·rw [hst]
  exact ⟨(hkeep g hg2 hag).trans hp.blk,ownsRow_at hp.row (fun k hk'=>hkeep k (ownsRow_ltG hp.row hk') (hap k hk')),hp.lo,hp.ok,hp.few⟩
 ·rw [hst]
  exact hn
 ·intro j hj he
  rw [hu] at he
  injection he with he
  subst he
  rcases hat with h5|h5
  ·exact hap g6 hj h5
  ·have:=ownsRow_ltG hp.row hj
   omega
def RIdsPost (B g:Nat) (ns:List Nd) (rv:Value) (e:Ex) (w:World) (r:Ending) (w':World):Prop:=
 ∃(rv':Value) (gi ci:Nat) (more:List Nat),r= .returned (.tuple #[.slice (some ⟨gi,0,none⟩) e.size ci,.int .i64 0])∧more.length+1=e.size∧w'.cell? ⟨gi,more.length,none⟩=some (.int .i64 ((addG ns e).1:Int))∧KG g g rv rv' w w'∧GrR B g w' (addG ns e).2 rv'
set_option maxHeartbeats 8000000 in
set_option maxRecDepth 100000 in
theorem rids_any (B g:Nat) (w:World) (ns:List Nd) (rv v:Value) (e:Ex) (h:GrR B g w ns rv) (hv:NdFar g g rv w v (flat 0 e)) (hgd:e.Good) (hsz:e.size≤200) (hdp:e.depth≤40) (hroom:ns.length+e.size≤4096):
  Calls Tryz.prog 36 #[.pointer (some ⟨g,0,none⟩),v] w (RIdsPost B g ns rv e w):=by
 have HVA:=Lib.hid (valid_any w v (flat 0 e) hv.read (by rw [flat_len];omega) (flat_text e hgd 0))
 rw [validB_flat e hgd,decide_eq_true ⟨hsz,hdp⟩] at HVA
 have HG:=Lib.hid h
 have HV:=Lib.hid hv
 obtain ⟨i0,hif,hz0,hz1,hz2⟩:=info_parts info_int
 obtain ⟨n,hn⟩:∃n,n=e.size:=⟨_,rfl⟩
 have hfl:=flat_len e 0
 obtain ⟨A1,c1,rfl,_⟩:=hv
 rw [hfl,←hn] at HVA HV ⊢
 unfold RIdsPost
 rw [←hn]
 have HN:=Lib.hid hn
 have HFL:=Lib.hid hfl
 have hn1:1≤n:=by rw [hn];exact e.size_pos
 have hn2:n≤200:=by omega
 obtain ⟨A,c,rfl⟩:=h.row.shape
 have HGD:=Lib.hid hgd
 have HRM:=Lib.hid hroom
 obtain ⟨k0,f0,hgz⟩:=h.blk.oneG
 clear h hn hfl hgd hsz hdp hroom k0 f0
 go_enter Tryz.func36,Tryz.ntmps36
 go_wp2_with fail
 refine HVA.out.mono ?_
 rintro r w1 ⟨rfl,hx1⟩
 have HX1:=Lib.hid hx1
 obtain ⟨k0,f0,hgz⟩:=(HG.out.keep hx1).blk.oneG
 clear hx1
 have hw1:∀i:Nat,i<n→IntKind.i64.wrap ((i:Int)+1)=(i:Int)+1:=fun i hi=>IntWalk.i64_in _ (by omega)
 have HW1:=Lib.hid hw1
 clear hw1
 go_wp2_with fail
 go_loopw [7,22] (fun s7 s22 wr=>∃i:Nat,i≤n∧s22= .int .i64 (i:Int)∧RIdsInv B g ns (.slice A ns.length c) e w i s7 wr) (fun _ s22 _=>n-(intOf s22).toNat)
 case atStart=>exact ⟨0,Nat.zero_le _,rfl,RIdsInv.start HG.out HX1.out⟩
 case round=>
  obtain ⟨i,hi,rfl,hinv⟩:=hrel
  by_cases hlt:i<n
  ·obtain ⟨nv1,hkg,hgr,hrow,hap⟩:=hinv
   have hie:i<e.size:=by rw [←HN.out];exact hlt
   have hl:i<(flat 0 e).length:=by rw [flat_len];exact hie
   have hfg:=FG.at HG.out.ok HGD.out i (Nat.le_of_lt hie)
   have hok:=flat_ndOk e HGD.out 0 i _ (List.getElem?_eq_getElem hl)
   rw [Nat.zero_add] at hok
   have hlift:=liftG_ok hfg hok
   have hbig:=hfg.big
   have hlen:=hfg.len
   have hgw:=HG.out.lt
   have hfar:=HV.out.keep hkg
   have HST:=Lib.hid (foldG_take ([],ns) (flat 0 e) i hl)
   obtain ⟨A2,c2,he2,hc2⟩:=hfar
   obtain ⟨q,o,hA,hq,p2,p3,p4,hcells⟩:=hc2 (by omega)
   obtain ⟨y0,y1,y2,y3,y4⟩:=hcells i hl
   simp only [Value.slice.injEq] at he2
   obtain ⟨rfl,hq1,rfl⟩:=he2
   clear hq1
   subst hA
   have hil:(i:Int)<(n:Int):=by omega
   have hi0:(0:Int)≤(i:Int):=by omega
   have hwi:=HW1.out i hlt
   clear hc2 hcells p4
   generalize hst:foldG ([],ns) (List.take i (flat 0 e))=st at *
   clear hst
   obtain ⟨ids,gs⟩:=st
   simp only at hgr hrow hlen hfg hlift hbig
   rw [stepG_eq] at HST
   simp only at HST
   have HAPX:=hap
   have HNX:=Lib.hid (fun rv2 w1 w2 w6 at2 g6 o hx hk hp hgr hat hu hn=>RIdsInv.next (rv2:=rv2) (w1:=w1) (w2:=w2) (w6:=w6) (at2:=at2) (g6:=g6) (o:=o) HG.out HST.out hkg hap hrow hx hk hp hgr hat hu hn)
   have HPU:=Lib.hid (fun W h=>rput_any B g W gs nv1 h _ hlift (by have:=HRM.out;omega))
   obtain ⟨A3,c3,rfl⟩:=hrow.shape
   have hget:∀j,j<i→∃ga,A3=some ⟨ga,0,none⟩∧ga<wr.heap.size∧wr.cell? ⟨ga,j,none⟩=some (.int .i64 ((ids.getD j 0:Nat):Int)):=fun j hj=>by
    obtain ⟨ga,ca,he⟩:=hrow.pos (by omega)
    injection he with he1 he2 he3
    subst he1
    exact ⟨ga,rfl,(hrow.blt ga rfl).2,hrow.get j hj⟩
   have HGT:=Lib.hid hget
   have HRW:=Lib.hid hrow
   have HGR:=Lib.hid hgr
   have HKG:=Lib.hid hkg
   have hszk:=hkg.size
   have hal2:=hok.args_len
   have HOP0:=Lib.hid hok.oper
   clear hget hrow hgr hkg hap hfg hlift HST
   generalize (flat 0 e)[i]=x at *
   clear hl
   have HAP:Hid (Apart nv1 (.slice A3 i c3)):=Lib.hid HAPX
   clear HAPX
   rcases hok with ⟨k,t,rfl,ho⟩|⟨k,nn,j,rfl,ho,hj⟩|⟨k,j,jq,rfl,hk,hj,hjq⟩
   ·have hlf:liftG ids ⟨(k:Int),0,0,0,t⟩=⟨(k:Int),0,0,0,t⟩:=by
     have:=ho.lt
     unfold liftG
     rw [if_neg (by simp only;omega),if_neg (by simp only;omega)]
    rw [hlf] at HPU HNX
    rw [argsG_leaf ho] at HOP0
    simp only at HOP0
    have HOP:=Lib.hid (fun W=>operands_any W (k:Int))
    rw [HOP0.out] at HOP
    clear hlf ho HOP0
    simp only [ndV] at HPU
    simp only at y0 y1 y2 y3 y4
    generalize hkk:(k:Int)=kk at *
    obtain ⟨s,hs⟩:∃s:ByteArray,s=⟨(t:List UInt8).toArray⟩:=⟨_,rfl⟩
    have hst:str t= .string s:=by rw [hs];rfl
    rw [hst] at y4 HPU
    clear hs hst hkk
    have HND:=Lib.hid (Blk.new wr 50 #[.int .i64 kk,.int .i64 0,.int .i64 0,.int .i64 0,.string s])
    have HX7:=Lib.hid ((Ext.refl wr).alloc (.cells #[.int .i64 kk,.int .i64 0,.int .i64 0,.int .i64 0,.string s] 50))
    obtain ⟨w7,hw7⟩:∃w7,w7=wr.alloc (.cells #[.int .i64 kk,.int .i64 0,.int .i64 0,.int .i64 0,.string s] 50):=⟨_,rfl⟩
    rw [←hw7] at HND HX7
    obtain ⟨q0,q1,q2,q3,q4⟩:=HND.out.five
    go_upto_region 8 with fail
    rw [←hw7]
    clear hw7 y0 y1 y2 y3 y4
    go_wp2_with fail
    refine (HOP.out _).mono ?_
    rintro r w8 ⟨rfl,rfl⟩
    go_wp2_with fail
    refine (HOP.out _).mono ?_
    rintro r w9 ⟨rfl,rfl⟩
    go_wp2_with fail
    refine (HPU.out w7 (HGR.out.keep HX7.out)).mono ?_
    rintro r w10 ⟨nv2,rfl,hk10,hg10⟩
    have HK10:=Lib.hid hk10
    have HG10:=Lib.hid hg10
    have hk11:=(KG.of_ext HX7.out).trans hk10
    have hs10:wr.heap.size≤w10.heap.size:=hk11.size
    have hrow10:RowN w.heap.size w10 (.slice A3 i c3) i ids:=ownsRow_at HRW.out (fun k hk=>hk11.block k (ownsRow_ltG HRW.out hk) (fun e=>by have:=(HRW.out.blt k hk).1;omega) (fun e=>by have:=(HRW.out.blt k hk).1;omega) (fun e=>HAP.out k e hk))
    have HRW10:=Lib.hid hrow10
    clear hk11 hrow10 hk10 hg10 q0 q1 q2 q3 q4
    have HFIN:=Lib.hid (fun w6 at2 g6 o hgr hat hu hn=>HNX.out nv2 w7 w10 w6 at2 g6 o HX7.out HK10.out HG10.out hgr hat hu hn)
    generalize (putG gs _).1=pid at *
    have HBB1:Hid (i+1≤maxLen):=Lib.hid (by unfold maxLen;omega)
    have HBB2:Hid ((i+1)*8≤140737488355328):=Lib.hid (by omega)
    have HRA:Hid ((w10.alloc (.cells #[.int .i64 (pid:Int)] 3)).ownsRow w.heap.size 3 1 (.slice A3 i c3) i (ids.map din)):=Lib.hid (ownsRow_below HRW10.out (fun k _ hk=>Below.heap_alloc _ _ k hk))
    have HNW:=Lib.hid (newsL w10 3 [.int .i64 (pid:Int)])
    have HBB3:Hid (w.heap.size≤(w10.alloc (.cells #[.int .i64 (pid:Int)] 3)).heap.size):=Lib.hid (by simp;omega)
    go_wp2_with (at_builtin;go_must (refine wpList_append_lies _ rfl _ _ 22 rfl w.heap.size 3 i0 _ 1 8 Tryz.underlying22 hif hz0 hz1 hz2 rfl (by decide) (.slice A3 i c3) i (ids.map din) rfl HRA.out ⟨w10.heap.size,0,none⟩ 1 1 [.int .i64 (pid:Int)] rfl rfl HNW.out (by simp [Value.oneCell']) (by decide) HBB1.out HBB2.out HBB3.out _ rfl ?_;intro g6 c6 w6 hown6 hgr6 hat6 hlt6;have HO6:Hid (RowN w.heap.size w6 (.slice (some ⟨g6,0,none⟩) (i+1) c6) (i+1) (ids++[pid])):=Lib.hid (by unfold RowN;rw [List.map_append];exact hown6);have HFF:=Lib.hid (HFIN.out w6 (.slice (some ⟨g6,0,none⟩) (i+1) c6) g6 _ hgr6 hat6 rfl HO6.out);clear hown6 hgr6 hat6 hlt6))
    go_roundw
    case rel=>exact ⟨i+1,hlt,by go_num,HFF.out⟩
    case measure=>simp [intOf];omega
   ·have hlf:liftG ids ⟨(k:Int),(j:Int),0,nn,[]⟩=⟨(k:Int),((ids.getD j 0:Nat):Int),0,nn,[]⟩:=by
     have:=ho.1
     unfold liftG
     rw [if_pos (by simp only;omega),if_neg (by simp only;omega)]
     rfl
    rw [hlf] at HPU HNX
    rw [argsG_un ho] at HOP0
    simp only at HOP0
    have HOP:=Lib.hid (fun W=>operands_any W (k:Int))
    rw [HOP0.out] at HOP
    obtain ⟨ga,rfl,hga,HGJ0⟩:=HGT.out j hj
    have HGJ:=Lib.hid HGJ0
    have hj1:(j:Int)<(i:Int):=by omega
    have hj0:(0:Int)≤(j:Int):=by omega
    clear hlf ho hj HOP0 HGJ0
    generalize ((ids.getD j 0:Nat):Int)=va at *
    simp only [ndV] at HPU
    simp only at y0 y1 y2 y3 y4
    generalize hkk:(k:Int)=kk at *
    obtain ⟨s,hs⟩:∃s:ByteArray,s=⟨([]:List UInt8).toArray⟩:=⟨_,rfl⟩
    have hst:str []= .string s:=by rw [hs];rfl
    rw [hst] at y4 HPU
    clear hs hst hkk
    have HND:=Lib.hid (Blk.new wr 50 #[.int .i64 kk,.int .i64 (j:Int),.int .i64 0,.int .i64 nn,.string s])
    have HX7:=Lib.hid ((Ext.refl wr).alloc (.cells #[.int .i64 kk,.int .i64 (j:Int),.int .i64 0,.int .i64 nn,.string s] 50))
    obtain ⟨w7,hw7⟩:∃w7,w7=wr.alloc (.cells #[.int .i64 kk,.int .i64 (j:Int),.int .i64 0,.int .i64 nn,.string s] 50):=⟨_,rfl⟩
    rw [←hw7] at HND HX7
    obtain ⟨q0,q1,q2,q3,q4⟩:=HND.out.five
    go_upto_region 8 with fail
    rw [←hw7]
    clear hw7 y0 y1 y2 y3 y4
    go_wp2_with fail
    refine (HOP.out _).mono ?_
    rintro r w8 ⟨rfl,rfl⟩
    have v0:=(HX7.out.cell hga).trans HGJ.out
    have f1:=HND.out.frozen 1
    have HN9:=Lib.hid (HND.out.set_ 1 (.int .i64 va))
    have HX9:=Lib.hid (HX7.out.setCell (p:=⟨wr.heap.size,1,none⟩) (Nat.le_refl _) (.int .i64 va))
    obtain ⟨r0,r1,r2,r3,r4⟩:=Blk.five HN9.out
    go_wp2_with fail
    refine (HOP.out _).mono ?_
    rintro r w9 ⟨rfl,rfl⟩
    go_wp2_with fail
    refine (HPU.out (w7.setCell ⟨wr.heap.size,1,none⟩ (.int .i64 va)) (HGR.out.keep HX9.out)).mono ?_
    rintro r w10 ⟨nv2,rfl,hk10,hg10⟩
    have HK10:=Lib.hid hk10
    have HG10:=Lib.hid hg10
    have hk11:=(KG.of_ext HX9.out).trans hk10
    have hs10:wr.heap.size≤w10.heap.size:=hk11.size
    have hrow10:RowN w.heap.size w10 (.slice (some ⟨ga,0,none⟩) i c3) i ids:=ownsRow_at HRW.out (fun k hk=>hk11.block k (ownsRow_ltG HRW.out hk) (fun e=>by have:=(HRW.out.blt k hk).1;omega) (fun e=>by have:=(HRW.out.blt k hk).1;omega) (fun e=>HAP.out k e hk))
    have HRW10:=Lib.hid hrow10
    clear hk11 hrow10 hk10 hg10 q0 q1 q2 q3 q4
    have HFIN:=Lib.hid (fun w6 at2 g6 o hgr hat hu hn=>HNX.out nv2 (w7.setCell ⟨wr.heap.size,1,none⟩ (.int .i64 va)) w10 w6 at2 g6 o HX9.out HK10.out HG10.out hgr hat hu hn)
    generalize (putG gs _).1=pid at *
    have HBB1:Hid (i+1≤maxLen):=Lib.hid (by unfold maxLen;omega)
    have HBB2:Hid ((i+1)*8≤140737488355328):=Lib.hid (by omega)
    have HRA:Hid ((w10.alloc (.cells #[.int .i64 (pid:Int)] 3)).ownsRow w.heap.size 3 1 (.slice (some ⟨ga,0,none⟩) i c3) i (ids.map din)):=Lib.hid (ownsRow_below HRW10.out (fun k _ hk=>Below.heap_alloc _ _ k hk))
    have HNW:=Lib.hid (newsL w10 3 [.int .i64 (pid:Int)])
    have HBB3:Hid (w.heap.size≤(w10.alloc (.cells #[.int .i64 (pid:Int)] 3)).heap.size):=Lib.hid (by simp;omega)
    go_wp2_with (at_builtin;go_must (refine wpList_append_lies _ rfl _ _ 22 rfl w.heap.size 3 i0 _ 1 8 Tryz.underlying22 hif hz0 hz1 hz2 rfl (by decide) (.slice (some ⟨ga,0,none⟩) i c3) i (ids.map din) rfl HRA.out ⟨w10.heap.size,0,none⟩ 1 1 [.int .i64 (pid:Int)] rfl rfl HNW.out (by simp [Value.oneCell']) (by decide) HBB1.out HBB2.out HBB3.out _ rfl ?_;intro g6 c6 w6 hown6 hgr6 hat6 hlt6;have HO6:Hid (RowN w.heap.size w6 (.slice (some ⟨g6,0,none⟩) (i+1) c6) (i+1) (ids++[pid])):=Lib.hid (by unfold RowN;rw [List.map_append];exact hown6);have HFF:=Lib.hid (HFIN.out w6 (.slice (some ⟨g6,0,none⟩) (i+1) c6) g6 _ hgr6 hat6 rfl HO6.out);clear hown6 hgr6 hat6 hlt6))
    go_roundw
    case rel=>exact ⟨i+1,hlt,by go_num,HFF.out⟩
    case measure=>simp [intOf];omega
   ·have hlf:liftG ids ⟨(k:Int),(j:Int),(jq:Int),0,[]⟩=⟨(k:Int),((ids.getD j 0:Nat):Int),((ids.getD jq 0:Nat):Int),0,[]⟩:=by
     unfold liftG
     rw [if_pos (by simp only;omega),if_pos (by simp only;omega)]
     rfl
    rw [hlf] at HPU HNX
    rw [argsG_bin hk] at HOP0
    simp only at HOP0
    have HOP:=Lib.hid (fun W=>operands_any W (k:Int))
    rw [HOP0.out] at HOP
    obtain ⟨ga,rfl,hga,HGJ0⟩:=HGT.out j hj
    obtain ⟨gb,hgb,_,HGQ0⟩:=HGT.out jq hjq
    obtain rfl:ga=gb:=by injection hgb with hgb;injection hgb
    have HGJ:=Lib.hid HGJ0
    have HGQ:=Lib.hid HGQ0
    have hj1:(j:Int)<(i:Int):=by omega
    have hj0:(0:Int)≤(j:Int):=by omega
    have hjq1:(jq:Int)<(i:Int):=by omega
    have hjq0:(0:Int)≤(jq:Int):=by omega
    clear hlf hk hj hjq HOP0 HGJ0 HGQ0 hgb
    generalize ((ids.getD j 0:Nat):Int)=va at *
    generalize ((ids.getD jq 0:Nat):Int)=vb at *
    simp only [ndV] at HPU
    simp only at y0 y1 y2 y3 y4
    generalize hkk:(k:Int)=kk at *
    obtain ⟨s,hs⟩:∃s:ByteArray,s=⟨([]:List UInt8).toArray⟩:=⟨_,rfl⟩
    have hst:str []= .string s:=by rw [hs];rfl
    rw [hst] at y4 HPU
    clear hs hst hkk
    have HND:=Lib.hid (Blk.new wr 50 #[.int .i64 kk,.int .i64 (j:Int),.int .i64 (jq:Int),.int .i64 0,.string s])
    have HX7:=Lib.hid ((Ext.refl wr).alloc (.cells #[.int .i64 kk,.int .i64 (j:Int),.int .i64 (jq:Int),.int .i64 0,.string s] 50))
    obtain ⟨w7,hw7⟩:∃w7,w7=wr.alloc (.cells #[.int .i64 kk,.int .i64 (j:Int),.int .i64 (jq:Int),.int .i64 0,.string s] 50):=⟨_,rfl⟩
    rw [←hw7] at HND HX7
    obtain ⟨q0,q1,q2,q3,q4⟩:=HND.out.five
    go_upto_region 8 with fail
    rw [←hw7]
    clear hw7 y0 y1 y2 y3 y4
    go_wp2_with fail
    refine (HOP.out _).mono ?_
    rintro r w8 ⟨rfl,rfl⟩
    have v0:=(HX7.out.cell hga).trans HGJ.out
    have f1:=HND.out.frozen 1
    have HN9:=Lib.hid (HND.out.set_ 1 (.int .i64 va))
    have HX9:=Lib.hid (HX7.out.setCell (p:=⟨wr.heap.size,1,none⟩) (Nat.le_refl _) (.int .i64 va))
    obtain ⟨r0,r1,r2,r3,r4⟩:=Blk.five HN9.out
    have v1:=(HX9.out.cell hga).trans HGQ.out
    have f2:=HN9.out.frozen 2
    have HN10:=Lib.hid (Blk.set_ HN9.out 2 (.int .i64 vb))
    have HX10:=Lib.hid (HX9.out.setCell (p:=⟨wr.heap.size,2,none⟩) (Nat.le_refl _) (.int .i64 vb))
    obtain ⟨t0,t1,t2,t3,t4⟩:=Blk.five HN10.out
    go_wp2_with fail
    refine (HOP.out _).mono ?_
    rintro r w9 ⟨rfl,rfl⟩
    go_wp2_with fail
    refine (HPU.out ((w7.setCell ⟨wr.heap.size,1,none⟩ (.int .i64 va)).setCell ⟨wr.heap.size,2,none⟩ (.int .i64 vb)) (HGR.out.keep HX10.out)).mono ?_
    rintro r w10 ⟨nv2,rfl,hk10,hg10⟩
    have HK10:=Lib.hid hk10
    have HG10:=Lib.hid hg10
    have hk11:=(KG.of_ext HX10.out).trans hk10
    have hs10:wr.heap.size≤w10.heap.size:=hk11.size
    have hrow10:RowN w.heap.size w10 (.slice (some ⟨ga,0,none⟩) i c3) i ids:=ownsRow_at HRW.out (fun k hk=>hk11.block k (ownsRow_ltG HRW.out hk) (fun e=>by have:=(HRW.out.blt k hk).1;omega) (fun e=>by have:=(HRW.out.blt k hk).1;omega) (fun e=>HAP.out k e hk))
    have HRW10:=Lib.hid hrow10
    clear hk11 hrow10 hk10 hg10 q0 q1 q2 q3 q4
    have HFIN:=Lib.hid (fun w6 at2 g6 o hgr hat hu hn=>HNX.out nv2 ((w7.setCell ⟨wr.heap.size,1,none⟩ (.int .i64 va)).setCell ⟨wr.heap.size,2,none⟩ (.int .i64 vb)) w10 w6 at2 g6 o HX10.out HK10.out HG10.out hgr hat hu hn)
    generalize (putG gs _).1=pid at *
    have HBB1:Hid (i+1≤maxLen):=Lib.hid (by unfold maxLen;omega)
    have HBB2:Hid ((i+1)*8≤140737488355328):=Lib.hid (by omega)
    have HRA:Hid ((w10.alloc (.cells #[.int .i64 (pid:Int)] 3)).ownsRow w.heap.size 3 1 (.slice (some ⟨ga,0,none⟩) i c3) i (ids.map din)):=Lib.hid (ownsRow_below HRW10.out (fun k _ hk=>Below.heap_alloc _ _ k hk))
    have HNW:=Lib.hid (newsL w10 3 [.int .i64 (pid:Int)])
    have HBB3:Hid (w.heap.size≤(w10.alloc (.cells #[.int .i64 (pid:Int)] 3)).heap.size):=Lib.hid (by simp;omega)
    go_wp2_with (at_builtin;go_must (refine wpList_append_lies _ rfl _ _ 22 rfl w.heap.size 3 i0 _ 1 8 Tryz.underlying22 hif hz0 hz1 hz2 rfl (by decide) (.slice (some ⟨ga,0,none⟩) i c3) i (ids.map din) rfl HRA.out ⟨w10.heap.size,0,none⟩ 1 1 [.int .i64 (pid:Int)] rfl rfl HNW.out (by simp [Value.oneCell']) (by decide) HBB1.out HBB2.out HBB3.out _ rfl ?_;intro g6 c6 w6 hown6 hgr6 hat6 hlt6;have HO6:Hid (RowN w.heap.size w6 (.slice (some ⟨g6,0,none⟩) (i+1) c6) (i+1) (ids++[pid])):=Lib.hid (by unfold RowN;rw [List.map_append];exact hown6);have HFF:=Lib.hid (HFIN.out w6 (.slice (some ⟨g6,0,none⟩) (i+1) c6) g6 _ hgr6 hat6 rfl HO6.out);clear hown6 hgr6 hat6 hlt6))
    go_roundw
    case rel=>exact ⟨i+1,hlt,by go_num,HFF.out⟩
    case measure=>simp [intOf];omega
  ·obtain ⟨nv1,hkg,hgr,hrow,hap⟩:=hinv
   obtain ⟨more,hmore,hend⟩:=foldG_end e HGD.out ns
   have hin:i=n:=by omega
   rw [List.take_of_length_le (by rw [flat_len,←HN.out];omega),hend] at hgr hrow
   simp only at hgr hrow
   obtain ⟨gi,ci,rfl⟩:=hrow.pos (by omega)
   have hcell:=hrow.get more.length (by have:=HN.out;omega)
   rw [getD_lastG _ _ rfl] at hcell
   have HKG:=Lib.hid hkg
   have HGR:=Lib.hid hgr
   have HCE:=Lib.hid hcell
   have HMO:=Lib.hid hmore
   clear hkg hgr hrow hap hend hmore hcell
   go_wp2_with fail
   go_ret2
   exact ⟨nv1,gi,ci,more,by rw [hin];rfl,by rw [HN.out];exact HMO.out,HCE.out,HKG.out,HGR.out⟩
end Big
end Go.Proofs.YtaccjdbbkmhanaaGreatDoor
namespace Go.Proofs.YtaccjdbbkmhanaaGreatDoor
namespace Big
open Go.RowKit
def TapeF (a0 B g:Nat) (w:World) (L:Value) (l:List Int) (a:Nat):Prop:=TapeAt B g w L l a∧a0≤a
section
variable {a0 B g:Nat} {w w':World} {L:Value} {l:List Int} {a:Nat}
theorem TapeF.lt (h:TapeF a0 B g w L l a):g<B:=h.1.lt
theorem TapeF.blk (h:TapeF a0 B g w L l a):Blk w g 61 #[L,.int .i64 (a:Int)]:=h.1.blk
theorem TapeF.arr (h:TapeF a0 B g w L l a):ArrI w L l:=h.1.arr
theorem TapeF.pos (h:TapeF a0 B g w L l a):a≤l.length:=h.1.pos
theorem TapeF.few (h:TapeF a0 B g w L l a):l.length≤1000000:=h.1.few
theorem TapeF.below (h:TapeF a0 B g w L l a) (hk:Below B w w'):TapeF a0 B g w' L l a:=⟨h.1.below hk,h.2⟩
theorem le_nextA (l:List Int) (a:Nat):a≤nextA l a:=by unfold nextA;split<;>omega
end
theorem moreF_any {a0:Nat} (B g:Nat) (w:World) (L:Value) (l:List Int) (a:Nat) (h:TapeF a0 B g w L l a):Calls Tryz.prog 31 #[.pointer (some ⟨g,0,none⟩)] w fun e w'=>e= .returned (.bool (decide (a<l.length)))∧Dr w w':=more_any B g w L l a h.1
theorem nextF_any {a0:Nat} (B g:Nat) (w:World) (L:Value) (l:List Int) (a:Nat) (n:Int) (h:TapeF a0 B g w L l a) (hn:1≤n) (hn2:n≤4611686018427387904):Calls Tryz.prog 33 #[.pointer (some ⟨g,0,none⟩),.int .i64 n] w fun e w'=>e= .returned (.int .i64 (nextV l a n))∧TapeF a0 B g w' L l (nextA l a)∧(∀B',KB B' g w w'):=
 (next_any B g w L l a n h.1 hn hn2).mono fun _ _ ⟨h1,h2,h3⟩=>⟨h1,⟨h2,Nat.le_trans h.2 (le_nextA l a)⟩,h3⟩
theorem rangeF_any {a0:Nat} (B g:Nat) (w:World) (L:Value) (l:List Int) (a:Nat) (lo hi:Int) (h:TapeF a0 B g w L l a) (h1:lo≤hi) (h2: -1000000≤lo) (h3:hi≤1000000):Calls Tryz.prog 32 #[.pointer (some ⟨g,0,none⟩),.int .i64 lo,.int .i64 hi] w fun e w'=>e= .returned (.int .i64 (lo+nextV l a (hi-lo+1)))∧TapeF a0 B g w' L l (nextA l a)∧(∀B',KB B' g w w'):=
 (range_any B g w L l a lo hi h.1 h1 h2 h3).mono fun _ _ ⟨p1,p2,p3⟩=>⟨p1,⟨p2,Nat.le_trans h.2 (le_nextA l a)⟩,p3⟩
theorem numberF_any {a0:Nat} (B g:Nat) (w:World) (L:Value) (l:List Int) (a:Nat) (h:TapeF a0 B g w L l a) (hB:B≤w.heap.size):Calls Tryz.prog 55 #[.pointer (some ⟨g,0,none⟩)] w fun e w'=>∃t,e= .returned (str t)∧code7 t=0∧t.length≤5∧TapeF a0 B g w' L l (nextA l a)∧KB w.heap.size g w w':=
 (number_any B g w L l a h.1 hB).mono fun _ _ ⟨t,p0,p1,p2,p3,p4⟩=>⟨t,p0,p1,p2,⟨p3,Nat.le_trans h.2 (le_nextA l a)⟩,p4⟩
def PartPostF (a0 B g:Nat) (w:World) (L:Value) (l:List Int) (xs:List Nd) (d:Nat) (e:Ending) (w':World):Prop:=
 ∃(x:Ex) (v':Value) (a':Nat),e= .returned v'∧x.Good∧x.size+1≤2 ^ d∧x.depth≤d∧OwnNd B w' v' (xs++flat xs.length x)∧TapeF a0 B g w' L l a'∧KB B g w w'
set_option maxHeartbeats 2000000 in
set_option maxRecDepth 100000 in
theorem partF_any (a0 d:Nat):∀(B g:Nat) (w:World) (L:Value) (l:List Int) (a:Nat) (v:Value) (xs:List Nd) (closed:Bool) (D:Int),TapeF a0 B g w L l a→OwnNd B w v xs→B≤w.heap.size→1≤d→D=(d:Int)→xs.length+2 ^ d≤100000→d≤1000→
  Calls Tryz.prog 27 #[.pointer (some ⟨g,0,none⟩),v,.int .i64 D,.bool closed] w (PartPostF a0 B g w L l xs d):=by
 induction d using Nat.strongRecOn with
 |_ d IH=>
 intro B g w L l a v xs closed D ht hv hB hd1 hD hlen hdm
 have HIH:=Lib.hid IH
 have HT:=Lib.hid ht
 have HV:=Lib.hid hv
 have HP:=Lib.hid hlen
 have HDD:=Lib.hid hD
 have hDpos:1≤D:=by omega
 have hgB:=ht.lt
 obtain ⟨A0,c0,rfl⟩:=hv.shape
 have HMORE:=Lib.hid (moreF_any (a0:=a0) B g w L l a ht)
 have HN5:=Lib.hid (fun W h=>nextF_any (a0:=a0) B g W L l a 5 h (by decide) (by decide))
 have HRK:=Lib.hid (fun W h=>rangeF_any (a0:=a0) B g W L l a 1 16 h (by decide) (by decide) (by decide))
 have hr5:=nextV_range (l:=l) (a:=a) (n:=5) (by decide)
 have hr16:=nextV_range (l:=l) (a:=a) (n:=16-1+1) (by decide)
 have hp2:=pow_two_le hd1
 obtain ⟨i0,hi,hz0,hz1,hz2⟩:=info_parts info_node
 have hxl:xs.length≤100000:=by omega
 clear IH ht hv hlen hD
 generalize nextV l a 5=x5 at *
 generalize nextV l a (16-1+1)=x16 at *
 generalize nextA l a=a2 at *
 go_enter Tryz.func27,Tryz.ntmps27
 go_upto_region 1 with fail
 go_cut [23] from 12 to 23 (fun s23 wx=>∃q:Bool,s23= .bool q∧Dr w wx∧(q=false→1<D∧xs.length≤24))
 case first=>
  by_cases hD1:D≤1
  ·have hD2:decide (D≤1)=true:=decide_eq_true hD1
   go_wp2_with fail
   go_meet
   exact ⟨true,rfl,Dr.refl w,fun h=>by cases h⟩
  ·have hD2:decide (D≤1)=false:=decide_eq_false hD1
   by_cases hal:a<l.length
   ·have hal2:decide (a<l.length)=true:=decide_eq_true hal
    rw [hal2] at HMORE
    clear hal2 hal
    go_wp2_with fail
    refine HMORE.out.mono ?_
    rintro e w1 ⟨rfl,hd⟩
    have HD1:=Lib.hid hd
    clear hd
    go_wp2_with fail
    go_meet
    refine ⟨_,rfl,HD1.out,fun h=>⟨by omega,?_⟩⟩
    have h2:=of_decide_eq_false h
    omega
   ·have hal2:decide (a<l.length)=false:=decide_eq_false hal
    rw [hal2] at HMORE
    clear hal2 hal
    go_wp2_with fail
    refine HMORE.out.mono ?_
    rintro e w1 ⟨rfl,hd⟩
    have HD1:=Lib.hid hd
    clear hd
    go_wp2_with fail
    go_meet
    exact ⟨true,rfl,HD1.out,fun h=>by cases h⟩
 case rest=>
  obtain ⟨q,rfl,hd,hq⟩:=hcut
  clear HMORE
  have HD:=Lib.hid hd
  have HTX:=Lib.hid (HT.out.below (hd.belowN B))
  have HVX:=Lib.hid (HV.out.ext (hd.belowN w.heap.size))
  have HKX:=Lib.hid ((KB.refl B g w).below (hd.belowN B))
  have hBx:B≤wc.heap.size:=by rw [hd.heap];exact hB
  clear hd hB
  generalize wc=w1 at *
  cases q
  ·obtain ⟨hDgt,hx24⟩:=hq rfl
   obtain ⟨m,rfl⟩:∃m,d=m+1:=⟨d-1,by omega⟩
   have hm1:1≤m:=by have:=HDD.out;omega
   have hpow:2 ^ (m+1)=2*2 ^ m:=by rw [Nat.pow_succ];omega
   have hpm:=pow_two_le hm1
   have hlen:=HP.out
   have hw1:IntKind.i64.wrap (D-1)=D-1:=by have:=HDD.out;exact IntWalk.i64_in _ (by omega)
   obtain ⟨K,hK⟩:∃K:Nat,(K:Int)=1+x16:=⟨(1+x16).toNat,by omega⟩
   rw [←hK] at HRK
   have hK1:1≤K:=by omega
   have hK16:K≤16:=by omega
   have HOP:=Lib.hid (fun W=>operands_any W (K:Int))
   clear hq hK hr16 HN5 hr5
   have key:(operI (K:Int)=0∧K≤4)∨(operI (K:Int)=1∧(K=5∨(10≤K∧K≤16)))∨(operI (K:Int)=2∧(6≤K∧K≤9)):=by
    unfold operI
    repeat' split
    all_goals omega
   rcases key with ⟨hop,_⟩|⟨hop,hKu⟩|⟨hop,hKu⟩
   ·rw [hop] at HOP
    clear hop hx24
    have HI:=Lib.hid (fun W h1 h2 h3=>HIH.out 1 (by omega) B g W L l a2 (.slice A0 xs.length c0) xs closed 1 h1 h2 h3 (by decide) rfl (by omega) (by decide))
    go_wp2_with fail
    refine (HRK.out _ HTX.out).mono ?_
    rintro e w2 ⟨rfl,ht2,hk2⟩
    have HT2:=Lib.hid ht2
    have HV2:=Lib.hid (HVX.out.kbx hgB hk2)
    have HK2:=Lib.hid (HKX.out.trans (hk2 B))
    have hB2:B≤w2.heap.size:=Nat.le_trans hBx (hk2 B).size
    clear ht2 hk2
    go_wp2_with fail
    refine (HOP.out _).mono ?_
    rintro e w3 ⟨rfl,rfl⟩
    go_wp2_with fail
    refine (HI.out _ HT2.out HV2.out hB2).mono ?_
    rintro e w4 hpost
    obtain ⟨x,v',a',rfl,hg,hs,hdp,hown,htp,hk⟩:=hpost
    have HE:=Lib.hid (And.intro hg (And.intro hs (And.intro hdp (And.intro hown (And.intro htp hk)))))
    clear hg hs hdp hown htp hk
    go_wp2_with fail
    go_ret
    obtain ⟨hg,hs,hdp,hown,htp,hk⟩:=HE.out
    exact ⟨x,v',a',rfl,hg,Nat.le_trans hs hp2,by omega,hown,htp,HK2.out.trans hk⟩
   ·rw [hop] at HOP
    clear hop hx24
    by_cases hK10:K=10
    ·subst hK10
     rw [show ((10:Nat):Int)=10 from rfl] at HOP HRK
     have HR8:=Lib.hid (fun W h=>rangeF_any (a0:=a0) B g W L l a2 (-3) 4 h (by decide) (by decide) (by decide))
     have hr8:=nextV_range (l:=l) (a:=a2) (n:=4- -3+1) (by decide)
     have hn8: -3≤-3+nextV l a2 (4- -3+1)∧-3+nextV l a2 (4- -3+1)≤4:=by omega
     generalize-3+nextV l a2 (4- -3+1)=nn at *
     generalize nextA l a2=a3 at *
     clear hr8
     go_wp2_with fail
     refine (HRK.out _ HTX.out).mono ?_
     rintro e w2 ⟨rfl,ht2,hk2⟩
     have HT2:=Lib.hid ht2
     have HV2:=Lib.hid (HVX.out.kbx hgB hk2)
     have HK2:=Lib.hid (HKX.out.trans (hk2 B))
     have hB2:B≤w2.heap.size:=Nat.le_trans hBx (hk2 B).size
     clear ht2 hk2
     go_wp2_with fail
     refine (HOP.out _).mono ?_
     rintro e w3 ⟨rfl,rfl⟩
     go_wp2_with fail
     refine (HR8.out _ HT2.out).mono ?_
     rintro e w6 ⟨rfl,ht6,hk6⟩
     have HT6:=Lib.hid ht6
     have HV6:=Lib.hid (HV2.out.kbx hgB hk6)
     have HK6:=Lib.hid (HK2.out.trans (hk6 B))
     have hB6:B≤w6.heap.size:=Nat.le_trans hB2 (hk6 B).size
     clear ht6 hk6
     go_wp2_with fail
     refine (HIH.out m (by omega) B g _ L l a3 (.slice A0 xs.length c0) (xs) closed (D-1) HT6.out HV6.out hB6 hm1 (by have:=HDD.out;omega) (by omega) (by omega)).mono ?_
     rintro e w7 hpost
     obtain ⟨x,v7,a7,rfl,hg7,hs7,hdp7,hown7,htp7,hk7⟩:=hpost
     obtain ⟨A7,c7,n7,rfl,hn7⟩:=hown7.shape3
     have hL7:n7=xs.length+x.size:=by rw [hn7,List.length_append,flat_len]
     have HW7:Hid (w7.ownsRow B 50 5 (.slice A7 n7 c7) n7 (ndsC (xs++flat xs.length x))):=Lib.hid (by
      have h:=hown7
      unfold OwnNd at h
      rw [←hn7] at h
      exact h)
     have HL7:=Lib.hid hL7
     have hb7a:n7≤100000:=by omega
     have hb7b:1≤n7:=by have:=x.size_pos;omega
     have HO7:=Lib.hid hown7
     have HN7:=Lib.hid hn7
     have HT7:=Lib.hid htp7
     have HG7:=Lib.hid (And.intro hg7 hdp7)
     have HK7:=Lib.hid (HK6.out.trans hk7)
     have hB7:B≤w7.heap.size:=Nat.le_trans hB6 hk7.size
     clear hg7 hdp7 hown7 htp7 hk7 hn7 hL7
     have hw7:IntKind.i64.wrap ((n7:Int)-1)=(n7:Int)-1:=IntWalk.i64_in _ (by omega)
     have HRO:Hid ((w7.alloc (.cells #[.int .i64 10,.int .i64 ((n7:Int)-1),.int .i64 0,.int .i64 nn,.string ⟨#[]⟩] 50)).ownsRow B 50 5 _ n7 (ndsC (xs++flat xs.length x))):=Lib.hid (ownsRow_below HW7.out (fun k _ hk=>Below.heap_alloc _ _ k hk))
     have HNW:=Lib.hid (newsL w7 50 [.int .i64 10,.int .i64 ((n7:Int)-1),.int .i64 0,.int .i64 nn,.string ⟨#[]⟩])
     have HBB1:Hid (n7+1≤maxLen):=Lib.hid (by unfold maxLen;omega)
     have HBB2:Hid ((n7+1)*48≤140737488355328):=Lib.hid (by omega)
     have HBB3:Hid (B≤(w7.alloc (.cells #[.int .i64 10,.int .i64 ((n7:Int)-1),.int .i64 0,.int .i64 nn,.string ⟨#[]⟩] 50)).heap.size):=Lib.hid (by simp;omega)
     go_wp2_with (at_builtin;go_must (refine wpList_append_own _ rfl _ _ 25 rfl B 50 i0 _ 5 48 Tryz.underlying25 hi hz0 hz1 hz2 rfl (by decide) _ n7 (ndsC (xs++flat xs.length x)) rfl HRO.out ⟨w7.heap.size,0,none⟩ 1 1 [.int .i64 10,.int .i64 ((n7:Int)-1),.int .i64 0,.int .i64 nn,.string ⟨#[]⟩] rfl rfl HNW.out (by simp [Value.oneCell']) HBB1.out HBB2.out HBB3.out ?_;intro v' w' hown hgr _;have HDN:=Lib.hid (nd_after (nd:=⟨10,(n7:Int)-1,0,nn,[]⟩) HN7.out _ HO7.out hB7 hown hgr);obtain ⟨A',c',rfl⟩:=ownsRow_shape hown;clear hown hgr))
     go_wp2_with fail
     go_ret
     have hL7:=HL7.out
     have hsz7:=x.size_pos
     refine ⟨.un 10 nn x,_,_,rfl,⟨hKu,fun h=>absurd rfl h,by omega,by omega,HG7.out.1⟩,by rw [Ex.size];omega,by rw [Ex.depth];have:=HG7.out.2;omega,?_,HT7.out.below HDN.out.2,HK7.out.below HDN.out.2⟩
     rw [flat,←List.append_assoc,show ((xs.length+x.size-1:Nat):Int)=(n7:Int)-1 by omega]
     exact HDN.out.1
    ·have hKe:((K:Int) == 10)=false:=by rw [beq_eq_false_iff_ne];omega
     go_wp2_with fail
     refine (HRK.out _ HTX.out).mono ?_
     rintro e w2 ⟨rfl,ht2,hk2⟩
     have HT2:=Lib.hid ht2
     have HV2:=Lib.hid (HVX.out.kbx hgB hk2)
     have HK2:=Lib.hid (HKX.out.trans (hk2 B))
     have hB2:B≤w2.heap.size:=Nat.le_trans hBx (hk2 B).size
     clear ht2 hk2
     go_wp2_with fail
     refine (HOP.out _).mono ?_
     rintro e w3 ⟨rfl,rfl⟩
     have HK6:=Lib.hid HK2.out
     have hB6:=hB2
     go_wp2_with fail
     refine (HIH.out m (by omega) B g _ L l a2 (.slice A0 xs.length c0) (xs) closed (D-1) HT2.out HV2.out hB2 hm1 (by have:=HDD.out;omega) (by omega) (by omega)).mono ?_
     rintro e w7 hpost
     obtain ⟨x,v7,a7,rfl,hg7,hs7,hdp7,hown7,htp7,hk7⟩:=hpost
     obtain ⟨A7,c7,n7,rfl,hn7⟩:=hown7.shape3
     have hL7:n7=xs.length+x.size:=by rw [hn7,List.length_append,flat_len]
     have HW7:Hid (w7.ownsRow B 50 5 (.slice A7 n7 c7) n7 (ndsC (xs++flat xs.length x))):=Lib.hid (by
      have h:=hown7
      unfold OwnNd at h
      rw [←hn7] at h
      exact h)
     have HL7:=Lib.hid hL7
     have hb7a:n7≤100000:=by omega
     have hb7b:1≤n7:=by have:=x.size_pos;omega
     have HO7:=Lib.hid hown7
     have HN7:=Lib.hid hn7
     have HT7:=Lib.hid htp7
     have HG7:=Lib.hid (And.intro hg7 hdp7)
     have HK7:=Lib.hid (HK6.out.trans hk7)
     have hB7:B≤w7.heap.size:=Nat.le_trans hB6 hk7.size
     clear hg7 hdp7 hown7 htp7 hk7 hn7 hL7
     have hw7:IntKind.i64.wrap ((n7:Int)-1)=(n7:Int)-1:=IntWalk.i64_in _ (by omega)
     have HRO:Hid ((w7.alloc (.cells #[.int .i64 (K:Int),.int .i64 ((n7:Int)-1),.int .i64 0,.int .i64 0,.string ⟨#[]⟩] 50)).ownsRow B 50 5 _ n7 (ndsC (xs++flat xs.length x))):=Lib.hid (ownsRow_below HW7.out (fun k _ hk=>Below.heap_alloc _ _ k hk))
     have HNW:=Lib.hid (newsL w7 50 [.int .i64 (K:Int),.int .i64 ((n7:Int)-1),.int .i64 0,.int .i64 0,.string ⟨#[]⟩])
     have HBB1:Hid (n7+1≤maxLen):=Lib.hid (by unfold maxLen;omega)
     have HBB2:Hid ((n7+1)*48≤140737488355328):=Lib.hid (by omega)
     have HBB3:Hid (B≤(w7.alloc (.cells #[.int .i64 (K:Int),.int .i64 ((n7:Int)-1),.int .i64 0,.int .i64 0,.string ⟨#[]⟩] 50)).heap.size):=Lib.hid (by simp;omega)
     go_wp2_with (at_builtin;go_must (refine wpList_append_own _ rfl _ _ 25 rfl B 50 i0 _ 5 48 Tryz.underlying25 hi hz0 hz1 hz2 rfl (by decide) _ n7 (ndsC (xs++flat xs.length x)) rfl HRO.out ⟨w7.heap.size,0,none⟩ 1 1 [.int .i64 (K:Int),.int .i64 ((n7:Int)-1),.int .i64 0,.int .i64 0,.string ⟨#[]⟩] rfl rfl HNW.out (by simp [Value.oneCell']) HBB1.out HBB2.out HBB3.out ?_;intro v' w' hown hgr _;have HDN:=Lib.hid (nd_after (nd:=⟨(K:Int),(n7:Int)-1,0,0,[]⟩) HN7.out _ HO7.out hB7 hown hgr);obtain ⟨A',c',rfl⟩:=ownsRow_shape hown;clear hown hgr))
     go_wp2_with fail
     go_ret
     have hL7:=HL7.out
     have hsz7:=x.size_pos
     refine ⟨.un K 0 x,_,_,rfl,⟨hKu,fun _=>rfl,by omega,by omega,HG7.out.1⟩,by rw [Ex.size];omega,by rw [Ex.depth];have:=HG7.out.2;omega,?_,HT7.out.below HDN.out.2,HK7.out.below HDN.out.2⟩
     rw [flat,←List.append_assoc,show ((xs.length+x.size-1:Nat):Int)=(n7:Int)-1 by omega]
     exact HDN.out.1
   ·rw [hop] at HOP
    clear hop hx24
    go_wp2_with fail
    refine (HRK.out _ HTX.out).mono ?_
    rintro e w2 ⟨rfl,ht2,hk2⟩
    have HT2:=Lib.hid ht2
    have HV2:=Lib.hid (HVX.out.kbx hgB hk2)
    have HK2:=Lib.hid (HKX.out.trans (hk2 B))
    have hB2:B≤w2.heap.size:=Nat.le_trans hBx (hk2 B).size
    clear ht2 hk2
    go_wp2_with fail
    refine (HOP.out _).mono ?_
    rintro e w3 ⟨rfl,rfl⟩
    have HK6:=Lib.hid HK2.out
    have hB6:=hB2
    go_wp2_with fail
    refine (HIH.out m (by omega) B g _ L l a2 (.slice A0 xs.length c0) (xs) closed (D-1) HT2.out HV2.out hB2 hm1 (by have:=HDD.out;omega) (by omega) (by omega)).mono ?_
    rintro e w7 hpost
    obtain ⟨x,v7,a7,rfl,hg7,hs7,hdp7,hown7,htp7,hk7⟩:=hpost
    obtain ⟨A7,c7,n7,rfl,hn7⟩:=hown7.shape3
    have hL7:n7=xs.length+x.size:=by rw [hn7,List.length_append,flat_len]
    have HW7:Hid (w7.ownsRow B 50 5 (.slice A7 n7 c7) n7 (ndsC (xs++flat xs.length x))):=Lib.hid (by
     have h:=hown7
     unfold OwnNd at h
     rw [←hn7] at h
     exact h)
    have HL7:=Lib.hid hL7
    have hb7a:n7≤100000:=by omega
    have hb7b:1≤n7:=by have:=x.size_pos;omega
    have HO7:=Lib.hid hown7
    have HN7:=Lib.hid hn7
    have HT7:=Lib.hid htp7
    have HG7:=Lib.hid (And.intro hg7 hdp7)
    have HK7:=Lib.hid (HK6.out.trans hk7)
    have hB7:B≤w7.heap.size:=Nat.le_trans hB6 hk7.size
    clear hg7 hdp7 hown7 htp7 hk7 hn7 hL7
    have hw7:IntKind.i64.wrap ((n7:Int)-1)=(n7:Int)-1:=IntWalk.i64_in _ (by omega)
    go_wp2_with fail
    refine (HIH.out m (by omega) B g _ L l a7 (.slice A7 n7 c7) (xs++flat xs.length x) closed (D-1) HT7.out HO7.out hB7 hm1 (by have:=HDD.out;omega) (by rw [←HN7.out];have:=HL7.out;omega) (by omega)).mono ?_
    rintro e w8 hpost
    obtain ⟨y,v8,a8,rfl,hg8,hs8,hdp8,hown8,htp8,hk8⟩:=hpost
    have hL7z:=HL7.out
    obtain ⟨A8,c8,n8,rfl,hn8⟩:=hown8.shape3
    have hL8:n8=n7+y.size:=by rw [hn8,List.length_append,flat_len,←HN7.out]
    have HW8:Hid (w8.ownsRow B 50 5 (.slice A8 n8 c8) n8 (ndsC ((xs++flat xs.length x)++flat (xs++flat xs.length x).length y))):=Lib.hid (by
     have h:=hown8
     unfold OwnNd at h
     rw [←hn8] at h
     exact h)
    have HL8:=Lib.hid hL8
    have hb8a:n8≤100000:=by omega
    have hb8b:1≤n8:=by have:=y.size_pos;omega
    have HO8:=Lib.hid hown8
    have HN8:=Lib.hid hn8
    have HT8:=Lib.hid htp8
    have HG8:=Lib.hid (And.intro hg8 hdp8)
    have HK8:=Lib.hid (HK7.out.trans hk8)
    have hB8:B≤w8.heap.size:=Nat.le_trans hB7 hk8.size
    clear hg8 hdp8 hown8 htp8 hk8 hn8 hL8 hL7z
    have hw8:IntKind.i64.wrap ((n8:Int)-1)=(n8:Int)-1:=IntWalk.i64_in _ (by omega)
    have HRO:Hid ((w8.alloc (.cells #[.int .i64 (K:Int),.int .i64 ((n7:Int)-1),.int .i64 ((n8:Int)-1),.int .i64 0,.string ⟨#[]⟩] 50)).ownsRow B 50 5 _ n8 (ndsC ((xs++flat xs.length x)++flat (xs++flat xs.length x).length y))):=Lib.hid (ownsRow_below HW8.out (fun k _ hk=>Below.heap_alloc _ _ k hk))
    have HNW:=Lib.hid (newsL w8 50 [.int .i64 (K:Int),.int .i64 ((n7:Int)-1),.int .i64 ((n8:Int)-1),.int .i64 0,.string ⟨#[]⟩])
    have HBB1:Hid (n8+1≤maxLen):=Lib.hid (by unfold maxLen;omega)
    have HBB2:Hid ((n8+1)*48≤140737488355328):=Lib.hid (by omega)
    have HBB3:Hid (B≤(w8.alloc (.cells #[.int .i64 (K:Int),.int .i64 ((n7:Int)-1),.int .i64 ((n8:Int)-1),.int .i64 0,.string ⟨#[]⟩] 50)).heap.size):=Lib.hid (by simp;omega)
    go_wp2_with (at_builtin;go_must (refine wpList_append_own _ rfl _ _ 25 rfl B 50 i0 _ 5 48 Tryz.underlying25 hi hz0 hz1 hz2 rfl (by decide) _ n8 (ndsC ((xs++flat xs.length x)++flat (xs++flat xs.length x).length y)) rfl HRO.out ⟨w8.heap.size,0,none⟩ 1 1 [.int .i64 (K:Int),.int .i64 ((n7:Int)-1),.int .i64 ((n8:Int)-1),.int .i64 0,.string ⟨#[]⟩] rfl rfl HNW.out (by simp [Value.oneCell']) HBB1.out HBB2.out HBB3.out ?_;intro v' w' hown hgr _;have HDN:=Lib.hid (nd_after (nd:=⟨(K:Int),(n7:Int)-1,(n8:Int)-1,0,[]⟩) HN8.out _ HO8.out hB8 hown hgr);obtain ⟨A',c',rfl⟩:=ownsRow_shape hown;clear hown hgr))
    go_wp2_with fail
    go_ret
    have hL7:=HL7.out
    have hL8:=HL8.out
    have hsz7:=x.size_pos
    have hsz8:=y.size_pos
    refine ⟨.bin K x y,_,_,rfl,⟨hKu,HG7.out.1,HG8.out.1⟩,by rw [Ex.size];omega,by rw [Ex.depth];have:=HG7.out.2;have:=HG8.out.2;omega,?_,HT8.out.below HDN.out.2,HK8.out.below HDN.out.2⟩
    rw [flat,show ((xs.length+x.size-1:Nat):Int)=(n7:Int)-1 by omega,show ((xs.length+x.size+y.size-1:Nat):Int)=(n8:Int)-1 by omega]
    have h9:=HDN.out.1
    rw [show (xs++flat xs.length x).length=xs.length+x.size by rw [←HN7.out];exact hL7] at h9
    simp only [List.append_assoc] at h9 ⊢
    exact h9
  ·clear hq HIH HRK hr16
   obtain rfl|h12|h34:x5=0∨(x5=1∨x5=2)∨(x5=3∨x5=4):=by omega
   ·go_wp2_with fail
    refine (HN5.out _ HTX.out).mono ?_
    rintro e w2 ⟨rfl,ht2,hk2⟩
    have HT2:=Lib.hid ht2
    have HV2:=Lib.hid (HVX.out.kbx hgB hk2)
    have HK2:=Lib.hid (HKX.out.trans (hk2 B))
    have hB2:B≤w2.heap.size:=Nat.le_trans hBx (hk2 B).size
    clear ht2 hk2
    have HNN:=Lib.hid (fun W h=>nextF_any (a0:=a0) B g W L l a2 2 h (by decide) (by decide))
    have hr2:=nextV_range (l:=l) (a:=a2) (n:=2) (by decide)
    generalize nextV l a2 2=y at *
    generalize nextA l a2=a3 at *
    obtain rfl|rfl:y=0∨y=1:=by omega
    ·go_wp2_with fail
     refine (HNN.out _ HT2.out).mono ?_
     rintro e w3 ⟨rfl,ht3,hk3⟩
     have HT3:=Lib.hid ht3
     have HV3:=Lib.hid (HV2.out.kbx hgB hk3)
     have HK3:=Lib.hid (HK2.out.trans (hk3 B))
     have hB3:B≤w3.heap.size:=Nat.le_trans hB2 (hk3 B).size
     clear ht3 hk3
     have HRO:Hid ((w3.alloc (.cells #[.int .i64 3,.int .i64 0,.int .i64 0,.int .i64 0,.string ⟨#[]⟩] 50)).ownsRow B 50 5 _ xs.length (ndsC (xs))):=Lib.hid (ownsRow_below HV3.out (fun k _ hk=>Below.heap_alloc _ _ k hk))
     have HNW:=Lib.hid (newsL w3 50 [.int .i64 3,.int .i64 0,.int .i64 0,.int .i64 0,.string ⟨#[]⟩])
     have HBB1:Hid (xs.length+1≤maxLen):=Lib.hid (by unfold maxLen;omega)
     have HBB2:Hid ((xs.length+1)*48≤140737488355328):=Lib.hid (by omega)
     have HBB3:Hid (B≤(w3.alloc (.cells #[.int .i64 3,.int .i64 0,.int .i64 0,.int .i64 0,.string ⟨#[]⟩] 50)).heap.size):=Lib.hid (by simp;omega)
     go_wp2_with (at_builtin;go_must (refine wpList_append_own _ rfl _ _ 25 rfl B 50 i0 _ 5 48 Tryz.underlying25 hi hz0 hz1 hz2 rfl (by decide) _ xs.length (ndsC (xs)) rfl HRO.out ⟨w3.heap.size,0,none⟩ 1 1 [.int .i64 3,.int .i64 0,.int .i64 0,.int .i64 0,.string ⟨#[]⟩] rfl rfl HNW.out (by simp [Value.oneCell']) HBB1.out HBB2.out HBB3.out ?_;intro v' w' hown hgr _;have HDN:=Lib.hid (nd_after (nd:=⟨3,0,0,0,[]⟩) rfl _ HV3.out hB3 hown hgr);obtain ⟨A',c',rfl⟩:=ownsRow_shape hown;clear hown hgr))
     go_wp2_with fail
     go_ret
     exact ⟨.leaf 3 [],_,_,rfl,.inr (.inr ⟨by omega,rfl⟩),by rw [Ex.size];omega,hd1,HDN.out.1,HT3.out.below HDN.out.2,HK3.out.below HDN.out.2⟩
    ·go_wp2_with fail
     refine (HNN.out _ HT2.out).mono ?_
     rintro e w3 ⟨rfl,ht3,hk3⟩
     have HT3:=Lib.hid ht3
     have HV3:=Lib.hid (HV2.out.kbx hgB hk3)
     have HK3:=Lib.hid (HK2.out.trans (hk3 B))
     have hB3:B≤w3.heap.size:=Nat.le_trans hB2 (hk3 B).size
     clear ht3 hk3
     have HRO:Hid ((w3.alloc (.cells #[.int .i64 4,.int .i64 0,.int .i64 0,.int .i64 0,.string ⟨#[]⟩] 50)).ownsRow B 50 5 _ xs.length (ndsC (xs))):=Lib.hid (ownsRow_below HV3.out (fun k _ hk=>Below.heap_alloc _ _ k hk))
     have HNW:=Lib.hid (newsL w3 50 [.int .i64 4,.int .i64 0,.int .i64 0,.int .i64 0,.string ⟨#[]⟩])
     have HBB1:Hid (xs.length+1≤maxLen):=Lib.hid (by unfold maxLen;omega)
     have HBB2:Hid ((xs.length+1)*48≤140737488355328):=Lib.hid (by omega)
     have HBB3:Hid (B≤(w3.alloc (.cells #[.int .i64 4,.int .i64 0,.int .i64 0,.int .i64 0,.string ⟨#[]⟩] 50)).heap.size):=Lib.hid (by simp;omega)
     go_wp2_with (at_builtin;go_must (refine wpList_append_own _ rfl _ _ 25 rfl B 50 i0 _ 5 48 Tryz.underlying25 hi hz0 hz1 hz2 rfl (by decide) _ xs.length (ndsC (xs)) rfl HRO.out ⟨w3.heap.size,0,none⟩ 1 1 [.int .i64 4,.int .i64 0,.int .i64 0,.int .i64 0,.string ⟨#[]⟩] rfl rfl HNW.out (by simp [Value.oneCell']) HBB1.out HBB2.out HBB3.out ?_;intro v' w' hown hgr _;have HDN:=Lib.hid (nd_after (nd:=⟨4,0,0,0,[]⟩) rfl _ HV3.out hB3 hown hgr);obtain ⟨A',c',rfl⟩:=ownsRow_shape hown;clear hown hgr))
     go_wp2_with fail
     go_ret
     exact ⟨.leaf 4 [],_,_,rfl,.inr (.inr ⟨by omega,rfl⟩),by rw [Ex.size];omega,hd1,HDN.out.1,HT3.out.below HDN.out.2,HK3.out.below HDN.out.2⟩
   ·cases closed
    ·obtain rfl|rfl:=h12
     all_goals
      go_wp2_with fail
      refine (HN5.out _ HTX.out).mono ?_
      rintro e w2 ⟨rfl,ht2,hk2⟩
      have HT2:=Lib.hid ht2
      have HV2:=Lib.hid (HVX.out.kbx hgB hk2)
      have HK2:=Lib.hid (HKX.out.trans (hk2 B))
      have hB2:B≤w2.heap.size:=Nat.le_trans hBx (hk2 B).size
      clear ht2 hk2
      have HNN:=Lib.hid (fun W h=>nextF_any (a0:=a0) B g W L l a2 5 h (by decide) (by decide))
      have hr2:=nextV_range (l:=l) (a:=a2) (n:=5) (by decide)
      obtain ⟨t,hyl,hyt,hgt,htl⟩:=names_get hr2.1 hr2.2
      obtain ⟨hy0,hy1⟩:=hr2
      have HG3:=Lib.hid hgt
      have HYT:=Lib.hid hyt
      generalize nextV l a2 5=y at *
      generalize nextA l a2=a3 at *
      clear hgt hyt
      go_wp2_with fail
      refine (names_any _).mono ?_
      rintro e w4 ⟨rfl,hb4,hx4⟩
      have HB4:=Lib.hid hb4
      have HX4:=Lib.hid hx4
      clear hb4 hx4
      go_wp2_with fail
      refine (names_any _).mono ?_
      rintro e w5 ⟨rfl,_,hx5⟩
      have HB5:=Lib.hid (HB4.out.ext hx5)
      have HX5:=Lib.hid (HX4.out.trans hx5)
      clear hx5
      go_wp2_with fail
      refine (HNN.out _ (HT2.out.below (Below.mono HX5.out hB2))).mono ?_
      rintro e w3 ⟨rfl,ht3,hk3⟩
      have hgl:=HT2.out.blk.lt
      have hld:=((hk3 (w2.heap.size+1)).blk HB5.out (by omega) (by omega)).cell y.toNat
      rw [List.getElem?_toArray,List.getElem?_map,List.getElem?_eq_getElem hyl] at hld
      rw [HYT.out] at hld
      have hld2:w3.cell? ⟨w2.heap.size,y.toNat,none⟩=some (str t):=hld
      have HT3:=Lib.hid ht3
      have HV3:=Lib.hid ((HV2.out.ext HX5.out).kbx hgB hk3)
      have HK3:=Lib.hid ((HK2.out.ext HX5.out hB2).trans (hk3 B))
      have hB3:B≤w3.heap.size:=Nat.le_trans hB2 (Nat.le_trans HX5.out.size (hk3 B).size)
      clear ht3 hk3 hld hgl
      have HRO:Hid ((w3.alloc (.cells #[.int .i64 2,.int .i64 0,.int .i64 0,.int .i64 0,str t] 50)).ownsRow B 50 5 _ xs.length (ndsC (xs))):=Lib.hid (ownsRow_below HV3.out (fun k _ hk=>Below.heap_alloc _ _ k hk))
      have HNW:=Lib.hid (newsL w3 50 [.int .i64 2,.int .i64 0,.int .i64 0,.int .i64 0,str t])
      have HBB1:Hid (xs.length+1≤maxLen):=Lib.hid (by unfold maxLen;omega)
      have HBB2:Hid ((xs.length+1)*48≤140737488355328):=Lib.hid (by omega)
      have HBB3:Hid (B≤(w3.alloc (.cells #[.int .i64 2,.int .i64 0,.int .i64 0,.int .i64 0,str t] 50)).heap.size):=Lib.hid (by simp;omega)
      go_wp2_with (at_builtin;go_must (refine wpList_append_own _ rfl _ _ 25 rfl B 50 i0 _ 5 48 Tryz.underlying25 hi hz0 hz1 hz2 rfl (by decide) _ xs.length (ndsC (xs)) rfl HRO.out ⟨w3.heap.size,0,none⟩ 1 1 [.int .i64 2,.int .i64 0,.int .i64 0,.int .i64 0,str t] rfl rfl HNW.out (by simp [Value.oneCell',str]) HBB1.out HBB2.out HBB3.out ?_;intro v' w' hown hgr _;have HDN:=Lib.hid (nd_after (nd:=⟨2,0,0,0,t⟩) rfl _ HV3.out hB3 hown hgr);obtain ⟨A',c',rfl⟩:=ownsRow_shape hown;clear hown hgr))
      go_wp2_with fail
      go_ret
      exact ⟨.leaf 2 t,_,_,rfl,.inr (.inl ⟨rfl,HG3.out⟩),by rw [Ex.size];omega,hd1,HDN.out.1,HT3.out.below HDN.out.2,HK3.out.below HDN.out.2⟩
    ·obtain rfl|rfl:=h12
     all_goals
      go_wp2_with fail
      refine (HN5.out _ HTX.out).mono ?_
      rintro e w2 ⟨rfl,ht2,hk2⟩
      have HT2:=Lib.hid ht2
      have HV2:=Lib.hid (HVX.out.kbx hgB hk2)
      have HK2:=Lib.hid (HKX.out.trans (hk2 B))
      have hB2:B≤w2.heap.size:=Nat.le_trans hBx (hk2 B).size
      clear ht2 hk2
      go_wp2_with fail
      refine (numberF_any (a0:=a0) B g _ L l a2 HT2.out hB2).mono ?_
      rintro e w3 ⟨t,rfl,hc7,htl,ht3,hk3⟩
      have HG3:=Lib.hid (And.intro hc7 htl)
      clear hc7 htl
      have HT3:=Lib.hid ht3
      have HV3:=Lib.hid (HV2.out.kbs hgB hk3)
      have HK3:=Lib.hid (HK2.out.trans (hk3.mono hB2))
      have hB3:B≤w3.heap.size:=Nat.le_trans hB2 hk3.size
      clear ht3 hk3
      have HRO:Hid ((w3.alloc (.cells #[.int .i64 1,.int .i64 0,.int .i64 0,.int .i64 0,str t] 50)).ownsRow B 50 5 _ xs.length (ndsC (xs))):=Lib.hid (ownsRow_below HV3.out (fun k _ hk=>Below.heap_alloc _ _ k hk))
      have HNW:=Lib.hid (newsL w3 50 [.int .i64 1,.int .i64 0,.int .i64 0,.int .i64 0,str t])
      have HBB1:Hid (xs.length+1≤maxLen):=Lib.hid (by unfold maxLen;omega)
      have HBB2:Hid ((xs.length+1)*48≤140737488355328):=Lib.hid (by omega)
      have HBB3:Hid (B≤(w3.alloc (.cells #[.int .i64 1,.int .i64 0,.int .i64 0,.int .i64 0,str t] 50)).heap.size):=Lib.hid (by simp;omega)
      go_wp2_with (at_builtin;go_must (refine wpList_append_own _ rfl _ _ 25 rfl B 50 i0 _ 5 48 Tryz.underlying25 hi hz0 hz1 hz2 rfl (by decide) _ xs.length (ndsC (xs)) rfl HRO.out ⟨w3.heap.size,0,none⟩ 1 1 [.int .i64 1,.int .i64 0,.int .i64 0,.int .i64 0,str t] rfl rfl HNW.out (by simp [Value.oneCell',str]) HBB1.out HBB2.out HBB3.out ?_;intro v' w' hown hgr _;have HDN:=Lib.hid (nd_after (nd:=⟨1,0,0,0,t⟩) rfl _ HV3.out hB3 hown hgr);obtain ⟨A',c',rfl⟩:=ownsRow_shape hown;clear hown hgr))
      go_wp2_with fail
      go_ret
      exact ⟨.leaf 1 t,_,_,rfl,.inl ⟨rfl,HG3.out.1,Nat.le_trans HG3.out.2 (by decide)⟩,by rw [Ex.size];omega,hd1,HDN.out.1,HT3.out.below HDN.out.2,HK3.out.below HDN.out.2⟩
   ·obtain rfl|rfl:=h34
    all_goals
     go_wp2_with fail
     refine (HN5.out _ HTX.out).mono ?_
     rintro e w2 ⟨rfl,ht2,hk2⟩
     have HT2:=Lib.hid ht2
     have HV2:=Lib.hid (HVX.out.kbx hgB hk2)
     have HK2:=Lib.hid (HKX.out.trans (hk2 B))
     have hB2:B≤w2.heap.size:=Nat.le_trans hBx (hk2 B).size
     clear ht2 hk2
     go_wp2_with fail
     refine (numberF_any (a0:=a0) B g _ L l a2 HT2.out hB2).mono ?_
     rintro e w3 ⟨t,rfl,hc7,htl,ht3,hk3⟩
     have HG3:=Lib.hid (And.intro hc7 htl)
     clear hc7 htl
     have HT3:=Lib.hid ht3
     have HV3:=Lib.hid (HV2.out.kbs hgB hk3)
     have HK3:=Lib.hid (HK2.out.trans (hk3.mono hB2))
     have hB3:B≤w3.heap.size:=Nat.le_trans hB2 hk3.size
     clear ht3 hk3
     have HRO:Hid ((w3.alloc (.cells #[.int .i64 1,.int .i64 0,.int .i64 0,.int .i64 0,str t] 50)).ownsRow B 50 5 _ xs.length (ndsC (xs))):=Lib.hid (ownsRow_below HV3.out (fun k _ hk=>Below.heap_alloc _ _ k hk))
     have HNW:=Lib.hid (newsL w3 50 [.int .i64 1,.int .i64 0,.int .i64 0,.int .i64 0,str t])
     have HBB1:Hid (xs.length+1≤maxLen):=Lib.hid (by unfold maxLen;omega)
     have HBB2:Hid ((xs.length+1)*48≤140737488355328):=Lib.hid (by omega)
     have HBB3:Hid (B≤(w3.alloc (.cells #[.int .i64 1,.int .i64 0,.int .i64 0,.int .i64 0,str t] 50)).heap.size):=Lib.hid (by simp;omega)
     go_wp2_with (at_builtin;go_must (refine wpList_append_own _ rfl _ _ 25 rfl B 50 i0 _ 5 48 Tryz.underlying25 hi hz0 hz1 hz2 rfl (by decide) _ xs.length (ndsC (xs)) rfl HRO.out ⟨w3.heap.size,0,none⟩ 1 1 [.int .i64 1,.int .i64 0,.int .i64 0,.int .i64 0,str t] rfl rfl HNW.out (by simp [Value.oneCell',str]) HBB1.out HBB2.out HBB3.out ?_;intro v' w' hown hgr _;have HDN:=Lib.hid (nd_after (nd:=⟨1,0,0,0,t⟩) rfl _ HV3.out hB3 hown hgr);obtain ⟨A',c',rfl⟩:=ownsRow_shape hown;clear hown hgr))
     go_wp2_with fail
     go_ret
     exact ⟨.leaf 1 t,_,_,rfl,.inl ⟨rfl,HG3.out.1,Nat.le_trans HG3.out.2 (by decide)⟩,by rw [Ex.size];omega,hd1,HDN.out.1,HT3.out.below HDN.out.2,HK3.out.below HDN.out.2⟩
set_option maxRecDepth 100000 in
theorem exprF_any (d g:Nat) (w:World) (L:Value) (l:List Int) (a:Nat) (closed:Bool) (h:TapeAt w.heap.size g w L l a) (hd:1≤d) (hd2:d≤16):Calls Tryz.prog 8 #[.pointer (some ⟨g,0,none⟩),.int .i64 (d:Int),.bool closed] w (PartPostF a w.heap.size g w L l [] d):=by
 have hp:2 ^ d≤2 ^ 16:=Nat.pow_le_pow_right (by omega) hd2
 have HP:=Lib.hid (partF_any a d w.heap.size g w L l a (.slice none 0 0) [] closed (d:Int) ⟨h,Nat.le_refl a⟩ (OwnNd.nil _ w) (Nat.le_refl _) hd rfl (by simp;omega) (by omega))
 clear h hp
 go_enter Tryz.func8,Tryz.ntmps8
 go_wp2_with fail
 refine HP.out.mono ?_
 rintro e w2 ⟨x,v',a',rfl,h1,h2,h3,h4,h5,h6⟩
 have HE:=Lib.hid (And.intro h1 (And.intro h2 (And.intro h3 (And.intro h4 (And.intro h5 h6)))))
 clear h1 h2 h3 h4 h5 h6
 go_wp2_with fail
 go_ret
 obtain ⟨h1,h2,h3,h4,h5,h6⟩:=HE.out
 exact ⟨x,v',a',rfl,h1,h2,h3,h4,h5,h6⟩
end Big
end Go.Proofs.YtaccjdbbkmhanaaGreatDoor
namespace Go.Proofs.YtaccjdbbkmhanaaGreatDoor
namespace Big
open Go.RowKit
def RAddPost (B g:Nat) (ns:List Nd) (rv:Value) (e:Ex) (w:World) (r:Ending) (w':World):Prop:=
 ∃rv',r= .returned (.tuple #[.int .i64 ((addG ns e).1:Int),.int .i64 0])∧KG g g rv rv' w w'∧GrR B g w' (addG ns e).2 rv'
set_option maxHeartbeats 4000000 in
set_option maxRecDepth 100000 in
theorem radd_any (B g:Nat) (w:World) (ns:List Nd) (rv v:Value) (e:Ex) (h:GrR B g w ns rv) (hv:NdFar g g rv w v (flat 0 e)) (hgd:e.Good) (hsz:e.size≤200) (hdp:e.depth≤40) (hroom:ns.length+e.size≤4096):
  Calls Tryz.prog 18 #[.pointer (some ⟨g,0,none⟩),v] w (RAddPost B g ns rv e w):=by
 have HID:=Lib.hid (rids_any B g w ns rv v e h hv hgd hsz hdp hroom)
 obtain ⟨A1,c1,rfl,_⟩:=hv
 clear h hgd hdp hroom
 go_enter Tryz.func18,Tryz.ntmps18
 go_wp2_with fail
 refine HID.out.mono ?_
 rintro r w1 ⟨rv',gi,ci,more,rfl,hm,hc,hk,hg⟩
 rw [←hm] at hsz ⊢
 have HK:=Lib.hid hk
 have HG:=Lib.hid hg
 clear hm hk hg
 obtain ⟨kz,hkz⟩:∃kz,kz=more.length:=⟨_,rfl⟩
 rw [←hkz] at hsz hc ⊢
 clear hkz
 have hz1:IntKind.i64.wrap (((kz+1:Nat):Int)-1)=(kz:Int):=by rw [IntWalk.i64_in _ (by omega)];omega
 have hz2:IntKind.i64.wrap ((kz:Int)+1-1)=(kz:Int):=by rw [IntWalk.i64_in _ (by omega)];omega
 have hz3:IntKind.i64.wrap (kz:Int)=(kz:Int):=IntWalk.i64_in _ (by omega)
 have hz4:(kz:Int)<(kz:Int)+1:=by omega
 have hz5:(0:Int)≤(kz:Int):=by omega
 generalize hpid:(addG ns e).1=pid at *
 have HPID:=Lib.hid hpid
 clear hpid
 go_wp2_with fail
 go_ret2
 exact ⟨rv',by rw [HPID.out];rfl,HK.out,HG.out⟩
def tapeP (w:World) (g:Nat):Nat:=match w.cell? ⟨g,1,none⟩ with
 |some (.int _ n)=>n.toNat
 |_=>0
theorem TapeAt.place {B g:Nat} {w:World} {L:Value} {l:List Int} {a:Nat} (h:TapeAt B g w L l a):tapeP w g=a:=by
 unfold tapeP
 rw [h.blk.cell 1]
 simp
theorem GrR.kb {B g tg:Nat} {w w':World} {ns:List Nd} {rv:Value} (h:GrR B g w ns rv) (ht:tg<B) (hk:KB w.heap.size tg w w'):GrR B g w' ns rv:=
 ⟨(hk.block g h.lt (by have:=h.lo;omega)).trans h.blk,h.row.kbs ht hk,h.lo,h.ok,h.few⟩
set_option maxHeartbeats 4000000 in
set_option maxRecDepth 100000 in
theorem mgraph_any (w:World) (v:Value) (l:List Int) (h:ArrI w v l) (hn:l.length≤1000000):
  Calls Tryz.prog 14 #[v] w fun e w'=>∃g ns rv,e= .returned (.pointer (some ⟨g,0,none⟩))∧GrR (w.heap.size+1) g w' ns rv∧ns.length≤75∧Ext w w':=by
 have HNEW:=Lib.hid (new_any w v l h hn)
 obtain ⟨A0,c0,rfl,hh0,hh1,hh2⟩:=h.open
 clear h hh0 hh1 hh2
 go_enter Tryz.func14,Tryz.ntmps14
 go_wp2_with fail
 refine HNEW.out.mono ?_
 rintro e w1 ⟨rfl,ht,hx,hs⟩
 have HT1:=Lib.hid ht
 have HX1:=Lib.hid hx
 have HB1:=Lib.hid (Blk.new w1 46 #[.slice none 0 0])
 have hws:=hs
 obtain ⟨tg,htg⟩:∃tg,tg=w.heap.size:=⟨_,rfl⟩
 obtain ⟨g,hg⟩:∃g,g=w1.heap.size:=⟨_,rfl⟩
 rw [←hg] at HB1
 rw [←htg] at HT1 ⊢
 rw [←hg,←htg] at hws
 have HGS:=Lib.hid hg
 have HTS:=Lib.hid htg
 have HWS:=Lib.hid hws
 clear HNEW ht hx hs
 go_upto_region 3 with fail
 rw [←hg,←htg]
 have HX2:=Lib.hid (HX1.out.alloc (.cells #[.slice none 0 0] 46))
 have HT2:=Lib.hid (HT1.out.below (Below.alloc (Below.refl (tg+1) w1) (by omega) (.cells #[.slice none 0 0] 46)))
 obtain ⟨w2,hw2⟩:∃w2,w2=w1.alloc (.cells #[.slice none 0 0] 46):=⟨_,rfl⟩
 rw [←hw2] at HX2 HB1 HT2
 rw [←hw2]
 clear hw2
 have HG2:Hid (GrR (tg+1) g w2 [] (.slice none 0 0)):=Lib.hid ⟨HB1.out,OwnNd.nil _ _,by omega,SoundG.nil,by decide⟩
 clear hg htg hws HT1 HX1
 go_loopw [9] (fun _ wr=>∃a ns rv,TapeAt (tg+1) tg wr (.slice A0 l.length c0) l a∧GrR (tg+1) g wr ns rv∧ns.length≤75∧Ext w wr) (fun _ wr=>l.length-tapeP wr tg)
 case atStart=>exact ⟨0,[],_,HT2.out,HG2.out,by decide,HX2.out⟩
 case round=>
  obtain ⟨a,ns,rv,ht,hgr,hns,hx⟩:=hrel
  have HT:=Lib.hid ht
  have HG:=Lib.hid hgr
  have HX:=Lib.hid hx
  have HPL:=Lib.hid ht.place
  have HMO:=Lib.hid (more_any (tg+1) tg wr (.slice A0 l.length c0) l a ht)
  obtain ⟨A,c,rfl⟩:=hgr.row.shape
  obtain ⟨k0,f0,hgz⟩:=hgr.blk.oneG
  have hwz:=hx.size
  clear ht hgr hx
  by_cases hal:a<l.length
  ·rw [decide_eq_true hal] at HMO
   by_cases hn60:ns.length<60
   ·have hd60:decide ((ns.length:Int)<60)=true:=decide_eq_true (by omega)
    have hn60':(ns.length:Int)<60:=by omega
    have hr4:=nextV_range (l:=l) (a:=a) (n:=4-1+1) (by decide)
    have HRG:=Lib.hid (fun W h=>range_any (tg+1) tg W (.slice A0 l.length c0) l a 1 4 h (by decide) (by decide) (by decide))
    have HNX:=Lib.hid (fun W h=>next_any (tg+1) tg W (.slice A0 l.length c0) l (nextA l a) 2 h (by decide) (by decide))
    have hna:nextA l a=a+1:=by unfold nextA;rw [if_pos hal]
    rw [hna] at HRG HNX
    have hle2:=le_nextA l (a+1)
    generalize nextA l (a+1)=a2 at *
    obtain ⟨K,hK⟩:∃K:Nat,(K:Int)=1+nextV l a (4-1+1):=⟨(1+nextV l a (4-1+1)).toNat,by omega⟩
    rw [←hK] at HRG
    have hK1:1≤K:=by omega
    have hK4:K≤4:=by omega
    clear hK hr4 hna
    obtain ⟨bb,hbb⟩:∃bb:Bool,bb=(nextV l (a+1) 2 == 0):=⟨_,rfl⟩
    generalize nextV l (a+1) 2=y2 at *
    go_wp2_with fail
    refine HMO.out.mono ?_
    rintro e w3 ⟨rfl,hd⟩
    have HT3:=Lib.hid (HT.out.below (hd.belowN _))
    have HG3:=Lib.hid (HG.out.keep hd.ext)
    have HX3:=Lib.hid (HX.out.trans hd.ext)
    have hs3:=hd.ext.size
    obtain ⟨k0,f0,hgz⟩:=HG3.out.blk.oneG
    clear hd
    go_wp2_with fail
    refine (HRG.out _ HT3.out).mono ?_
    rintro e w4 ⟨rfl,ht4,hk4⟩
    have HT4:=Lib.hid ht4
    have HG4:=Lib.hid (HG3.out.kb (by have q1:=HTS.out;have q2:=HWS.out;omega) (hk4 _))
    have HX4:=Lib.hid ((hk4 w3.heap.size).to_ext HX3.out (by have q1:=HTS.out;have q2:=HWS.out;omega) (by have q1:=HTS.out;have q2:=HWS.out;omega))
    have hs4:=(hk4 0).size
    clear ht4 hk4
    go_wp2_with fail
    refine (HNX.out _ HT4.out).mono ?_
    rintro e w5 ⟨rfl,ht5,hk5⟩
    have HT5:=Lib.hid ht5
    have HG5:=Lib.hid (HG4.out.kb (by have q1:=HTS.out;have q2:=HWS.out;omega) (hk5 _))
    have HX5:=Lib.hid ((hk5 w4.heap.size).to_ext HX4.out (by have q1:=HTS.out;have q2:=HWS.out;omega) (by have q1:=HTS.out;have q2:=HWS.out;omega))
    have hs5:=(hk5 0).size
    clear ht5 hk5
    go_wp2_with fail
    rw [←hbb]
    refine (exprF_any K tg w5 (.slice A0 l.length c0) l a2 bb (HT5.out.mono (by have q1:=HTS.out;have q2:=HWS.out;omega)) hK1 (by omega)).mono ?_
    rintro e w6 ⟨x,v6,a6,rfl,hgd,hsz,hdp,hown,htp,hk⟩
    rw [List.nil_append] at hown
    have hp4:2 ^ K≤2 ^ 4:=Nat.pow_le_pow_right (by omega) hK4
    have hsx:x.size≤15:=by omega
    have HF6:=Lib.hid (NdFar.newR hown HG5.out)
    have HG6:=Lib.hid (HG5.out.kb (by have q1:=HTS.out;have q2:=HWS.out;omega) hk)
    have HX6:=Lib.hid (hk.to_ext HX5.out (by have q1:=HTS.out;have q2:=HWS.out;omega) (by have q1:=HTS.out;have q2:=HWS.out;omega))
    have HT6:Hid (TapeAt (tg+1) tg w6 (.slice A0 l.length c0) l a6):=Lib.hid (HT5.out.kb (hk.mono (by have q1:=HTS.out;have q2:=HWS.out;omega)) htp.1.blk htp.1.pos)
    have hle6:=htp.2
    clear hown htp hk hp4 hsz
    obtain ⟨A6,c6,rfl,_⟩:=HF6.out
    have hlen:=addG_len x ns
    go_wp2_with fail
    refine (radd_any (tg+1) g w6 ns _ _ x HG6.out HF6.out hgd (by omega) (by omega) (by omega)).mono ?_
    rintro r w7 ⟨rv7,rfl,hk7,hg7⟩
    have HB7:=Lib.hid (hk7.belowR HG6.out)
    have HG7:=Lib.hid hg7
    have HT7:=Lib.hid (HT6.out.below HB7.out)
    clear hk7 hg7
    go_wp2_with fail
    go_roundw
    case rel=>exact ⟨a6,_,rv7,HT7.out,HG7.out,by omega,HX6.out.more (Below.mono HB7.out (by have q1:=HTS.out;have q2:=HWS.out;omega))⟩
    case measure=>
     rw [HT7.out.place,HPL.out]
     omega
   ·have hd60:decide ((ns.length:Int)<60)=false:=decide_eq_false (by omega)
    go_wp2_with fail
    refine HMO.out.mono ?_
    rintro e w3 ⟨rfl,hd⟩
    have HG3:=Lib.hid (HG.out.keep hd.ext)
    have HX3:=Lib.hid (HX.out.trans hd.ext)
    obtain ⟨k0,f0,hgz⟩:=HG3.out.blk.oneG
    clear hd
    go_wp2_with fail
    go_ret
    exact ⟨g,ns,_,rfl,by rw [←HTS.out];exact HG3.out,hns,HX3.out⟩
  ·rw [decide_eq_false hal] at HMO
   go_wp2_with fail
   refine HMO.out.mono ?_
   rintro e w3 ⟨rfl,hd⟩
   have HG3:=Lib.hid (HG.out.keep hd.ext)
   have HX3:=Lib.hid (HX.out.trans hd.ext)
   clear hd
   go_wp2_with fail
   go_ret
   exact ⟨g,ns,_,rfl,by rw [←HTS.out];exact HG3.out,hns,HX3.out⟩
end Big
end Go.Proofs.YtaccjdbbkmhanaaGreatDoor
namespace Go.Proofs.YtaccjdbbkmhanaaGreatDoor
namespace Big
open Go.RowKit
theorem clone_nodes (w:World) (b o n c:Nat) (l:List Nd) (hn:n=l.length) (hl:l.length≤1000000) (hc:∀j u,(ndsC l)[j]? =some u→w.cell? ⟨b,o+j,none⟩=some u):
  Calls Tryz.prog 37 #[.slice (some ⟨b,o,none⟩) n c] w fun e w'=>∃v',e= .returned v'∧OwnNd w.heap.size w' v' l∧Ext w w':=by
 obtain ⟨i0,hi,hz0,hz1,hz2⟩:=info_parts info_node
 have h:=AnyE.slices_Clone Tryz.cloneNodesIt i0 (.agg #[.int .i64 0,.int .i64 0,.int .i64 0,.int .i64 0,.string ⟨#[]⟩]) 5 48 hi hz0 hz1 hz2 rfl (by decide) (fun w=>by kernel_rfl) b o n c (ndsC l) w (by rw [ndsC_length,hn]) (by unfold maxLen;omega) (by omega) hc (fun u hu=>by
  unfold ndsC at hu
  obtain ⟨x,_,hu⟩:=List.mem_flatMap.1 hu
  simp only [ndC,List.mem_cons,List.not_mem_nil,or_false] at hu
  rcases hu with rfl|rfl|rfl|rfl|rfl<;>rfl)
 refine h.mono ?_
 rintro e w' ⟨v',rfl,ho,_,hx⟩
 refine ⟨v',rfl,?_,hx⟩
 unfold OwnNd
 rw [←hn]
 exact ho
theorem OwnNd.cells {B:Nat} {w:World} {v:Value} {l:List Nd} (h:OwnNd B w v l):(l=[]∧v= .slice none 0 0)∨∃g c,v= .slice (some ⟨g,0,none⟩) l.length c∧∀j u,(ndsC l)[j]? =some u→w.cell? ⟨g,0+j,none⟩=some u:=by
 unfold OwnNd at h
 rcases h.2 with ⟨h1,h2⟩|⟨g,cap,cur,rfl,_⟩
 ·exact .inl ⟨List.eq_nil_of_length_eq_zero h2,by rw [h1]⟩
 ·refine .inr ⟨g,cap,rfl,fun j u hj=> ?_⟩
  have hl:j<(ndsC l).length:=by
   rcases Nat.lt_or_ge j (ndsC l).length with h|h
   ·exact h
   ·rw [List.getElem?_eq_none h] at hj;cases hj
  rw [ndsC_length] at hl
  rw [Nat.zero_add,h.cellAt j hl,hj]
theorem gclone_any (B:Nat) (w:World) (v:Value) (l:List Nd) (h:OwnNd B w v l) (hl:l.length≤1000000):
  Calls Tryz.prog 37 #[v] w fun e w'=>∃v',e= .returned v'∧OwnNd w.heap.size w' v' l∧Ext w w':=by
 rcases h.cells with ⟨rfl,rfl⟩|⟨g,c,rfl,hc⟩
 ·refine (AnyE.slices_Clone_nil Tryz.cloneNodesIt 0 0 w).mono ?_
  rintro e w' ⟨rfl,rfl⟩
  exact ⟨_,rfl,OwnNd.nil _ _,Ext.refl _⟩
 ·exact clone_nodes w g 0 l.length c l rfl hl hc
set_option maxRecDepth 100000 in
theorem gnodes_any (B g b:Nat) (w:World) (ns:List Nd) (nv:Value) (h:GrP B g b w ns nv):
  Calls Tryz.prog 19 #[.pointer (some ⟨g,0,none⟩)] w fun e w'=>∃v',e= .returned v'∧OwnNd w.heap.size w' v' ns∧Ext w w':=by
 have HCL:=Lib.hid (gclone_any B w nv ns h.row (by have:=h.few;omega))
 obtain ⟨k0,k1,f0,f1,hgz⟩:=h.blk.twoG
 obtain ⟨A,c,rfl⟩:=h.row.shape
 clear h
 go_enter Tryz.func19,Tryz.ntmps19
 go_wp2_with fail
 refine HCL.out.mono ?_
 rintro e w1 ⟨v',rfl,ho,hx⟩
 have HE:=Lib.hid (And.intro ho hx)
 clear ho hx
 go_wp2_with fail
 go_ret
 exact ⟨v',rfl,HE.out⟩
def LoadPost (ns:List Nd) (w:World) (e:Ending) (w':World):Prop:=∃g b nv,e= .returned (.tuple #[.pointer (some ⟨g,0,none⟩),.int .i64 (ns.length:Int),.int .i64 0])∧GrP w.heap.size g b w' ns nv∧Ext w w'
set_option maxHeartbeats 4000000 in
set_option maxRecDepth 100000 in
theorem gload_any (B:Nat) (w:World) (v:Value) (ns:List Nd) (h:OwnNd B w v ns) (hok:SoundG ns) (hfew:ns.length≤4096) (hm:MaxV w):
  Calls Tryz.prog 15 #[v] w (LoadPost ns w):=by
 have HM:=Lib.hid hm
 have HOK:=Lib.hid hok
 have HNE:=Lib.hid (gnew_any w hm)
 obtain ⟨A,c,hrv,hcl⟩:=h.read
 subst hrv
 have HCL:=Lib.hid hcl
 unfold LoadPost
 obtain ⟨n,hnn⟩:∃n,n=ns.length:=⟨_,rfl⟩
 have HN:=Lib.hid hnn
 rw [←hnn] at hfew ⊢
 clear h hcl hm hok hnn
 go_enter Tryz.func15,Tryz.ntmps15
 go_wp2_with fail
 refine HNE.out.mono ?_
 rintro e w1 ⟨g,b,rfl,hg,hx⟩
 have HG1:=Lib.hid hg
 have HX1:=Lib.hid hx
 clear hg hx HNE
 go_wp2_with fail
 go_loopw [13] (fun s13 wr=>∃i:Nat,i≤n∧s13= .int .i64 (i:Int)∧∃nv,GrP w.heap.size g b wr (ns.take i) nv∧Ext w wr) (fun s13 _=>n-(intOf s13).toNat)
 case atStart=>exact ⟨0,Nat.zero_le _,rfl,_,by rw [List.take_zero];exact HG1.out,HX1.out⟩
 case round=>
  clear HG1 HX1
  obtain ⟨i,hi,rfl,nv,hg,hx⟩:=hrel
  by_cases hlt:i<n
  ·have hit:i<ns.length:=by rw [←HN.out];exact hlt
   have hok:=HOK.out.2 i _ (List.getElem?_eq_getElem hit)
   have hpl:=HOK.out.load hit
   have hlt2:(ns.take i).length=i:=by rw [List.length_take];omega
   have HPU:=Lib.hid (fun W h hm=>gput_any w.heap.size g b W (ns.take i) nv h ns[i] (by rw [hlt2];exact hok) hm (by omega))
   unfold PutPost at HPU
   rw [hpl] at HPU
   have HG:=Lib.hid hg
   have HX:=Lib.hid hx
   obtain ⟨gb,o,rfl,hgw,hc⟩:=HCL.out (by omega)
   obtain ⟨p0,p1,p2,p3,p4⟩:=hc i hit
   rw [←hx.cell hgw] at p0 p1 p2 p3 p4
   have hgr:gb<wr.heap.size:=Nat.lt_of_lt_of_le hgw hx.size
   have hi0:(0:Int)≤(i:Int):=by omega
   have hil:(i:Int)<(n:Int):=by omega
   have hwi:IntKind.i64.wrap ((i:Int)+1)=(i:Int)+1:=IntWalk.i64_in _ (by omega)
   generalize ns[i]=x at *
   clear hc hok hpl hit hlt2 hg hx
   obtain ⟨y0,y1,y2,y3,y4⟩:=x
   simp only [ndV] at HPU
   simp only at p0 p1 p2 p3 p4
   obtain ⟨s,hs⟩:∃s:ByteArray,s=⟨(y4:List UInt8).toArray⟩:=⟨_,rfl⟩
   have hst:str y4= .string s:=by rw [hs];rfl
   rw [hst] at p4 HPU
   clear hs hst
   have HND:=Lib.hid (Blk.new wr 50 #[.int .i64 y0,.int .i64 y1,.int .i64 y2,.int .i64 y3,.string s])
   have HX7:=Lib.hid ((Ext.refl wr).alloc (.cells #[.int .i64 y0,.int .i64 y1,.int .i64 y2,.int .i64 y3,.string s] 50))
   obtain ⟨w7,hw7⟩:∃w7,w7=wr.alloc (.cells #[.int .i64 y0,.int .i64 y1,.int .i64 y2,.int .i64 y3,.string s] 50):=⟨_,rfl⟩
   rw [←hw7] at HND HX7
   obtain ⟨q0,q1,q2,q3,q4⟩:=HND.out.five
   go_upto_region 5 with fail
   rw [←hw7]
   clear hw7 p0 p1 p2 p3 p4
   have HXX:=Lib.hid (HX.out.trans HX7.out)
   go_wp2_with fail
   refine (HPU.out w7 (HG.out.keep HX7.out) (HM.out.ext HXX.out)).mono ?_
   rintro r w8 ⟨nv2,rfl,hk8,hg8⟩
   have HG8:=Lib.hid hg8
   have HX8:=Lib.hid (HXX.out.more (hk8.below (HG.out.keep HX7.out)))
   clear hk8 hg8 q0 q1 q2 q3 q4
   go_wp2_with fail
   go_roundw
   case rel=>exact ⟨i+1,hlt,by go_num,nv2,HG8.out,HX8.out⟩
   case measure=>simp [intOf];omega
  ·obtain rfl:i=n:=by omega
   have hg':GrP w.heap.size g b wr ns nv:=by
    have h:=hg
    rw [HN.out,List.take_length] at h
    exact h
   have HG:=Lib.hid hg'
   have HX:=Lib.hid hx
   clear hg hg' hx
   go_wp2_with fail
   go_ret3
   exact ⟨g,b,nv,rfl,HG.out,HX.out⟩
end Big
end Go.Proofs.YtaccjdbbkmhanaaGreatDoor
