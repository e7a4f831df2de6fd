import Derived.Test.YtaccjdbbkmhanaaGreatDoorM23
import Derived.Test.YtaccjdbbkmhanaaGreatDoorM10
import Derived.Deep.LoopGhost
import Derived.Test.YtaccjdbbkmhanaaGreatDoorM16
import Derived.Test.YtaccjdbbkmhanaaGreatDoorM19
import Derived.Laws.StructEq
import Derived.Laws.OwnMore
import Derived.Test.YtaccjdbbkmhanaaGreatDoorM5
namespace Go.Proofs.YtaccjdbbkmhanaaGreatDoor
namespace Big
open Go.RowKit
theorem drop_head {l:List UInt8} {a:Nat} (ha:a<l.length):∃c t,l.drop a=c::t∧c.toNat=byteAt l a∧l[a]? =some c:=by
 refine ⟨l[a],l.drop (a+1),List.drop_eq_getElem_cons ha,(byteAt_eq l a ha).symm,List.getElem?_eq_getElem ha⟩
theorem tok_letter {l:List UInt8} {a:Nat} (ha:a<l.length) (h:letN (byteAt l a)=true):tokLen (l.drop a)=if runLen wordN (l.drop a)≤24 then some (2,runLen wordN (l.drop a)) else none:=by
 obtain ⟨c,t,h1,h2,_⟩:=drop_head ha
 rw [h1]
 unfold tokLen
 simp only
 rw [h2,if_pos h]
theorem tok_digit {l:List UInt8} {a:Nat} (ha:a<l.length) (h0:letN (byteAt l a)=false) (h:digN (byteAt l a)=true):tokLen (l.drop a)=if code7 ((l.drop a).take (runLen numN (l.drop a)))=0 then some (1,runLen numN (l.drop a)) else none:=by
 obtain ⟨c,t,h1,h2,_⟩:=drop_head ha
 rw [h1]
 unfold tokLen
 simp only
 rw [h2,h0,h]
 simp
theorem tok_sign {l:List UInt8} {a:Nat} (ha:a<l.length) (h0:letN (byteAt l a)=false) (h:digN (byteAt l a)=false):tokLen (l.drop a)=if signN (byteAt l a) then some (3,1) else none:=by
 obtain ⟨c,t,h1,h2,_⟩:=drop_head ha
 rw [h1]
 unfold tokLen
 simp only
 rw [h2,h0,h]
 simp
theorem byte_space {l:List UInt8} {a:Nat} (ha:a<l.length):l[a]? =some 32↔byteAt l a=32:=by
 obtain ⟨c,t,_,h2,h3⟩:=drop_head ha
 rw [h3,←h2]
 constructor
 ·intro h;injection h with h;rw [h];rfl
 ·intro h
  congr 1
  apply UInt8.toNat_inj.1
  rw [h];rfl
def ScanRes (w:World) (l:List UInt8) (e:Ending) (w':World):Prop:=
 ∃v,e= .returned (.tuple #[v,.int .i64 ((scanT l).2.1:Int),.int .i64 ((scanT l).2.2:Int)])∧w'.ownsRow w.heap.size 92 3 v (scanT l).1.length (toksC (scanT l).1)∧Ext w w'
end Big
end Go.Proofs.YtaccjdbbkmhanaaGreatDoor
namespace Go.Proofs.YtaccjdbbkmhanaaGreatDoor
namespace Big
open Go.RowKit
theorem news3 (w:World) (ty:TypeId) (x y z:Value):∀(j:Nat) (u:Value),[x,y,z][j]? =some u→(w.alloc (.cells #[x,y,z] ty)).cell? ((⟨w.heap.size,0,none⟩:Addr).add j)=some u:=fun j u hj=>by
 have h1:=(Blk.new w ty #[x,y,z]).cell j
 have h2:(⟨w.heap.size,0,none⟩:Addr).add j=⟨w.heap.size,j,none⟩:=by
  unfold Addr.add
  split
  ·rename_i h;subst h;rfl
  ·simp
 rw [h2,h1,←hj]
 simp
theorem ownsRow_lt {w:World} {base:Nat} {e:TypeId} {size n:Nat} {v:Value} {xs:List Value} (h:w.ownsRow base e size v n xs):∀k,v.ownBlock=some k→k<w.heap.size:=by
 obtain ⟨h1,h2⟩:=h
 rcases h2 with ⟨rfl,_⟩|⟨g,cap,cur,rfl,hg,hh,_⟩
 ·intro k hk;simp [Value.ownBlock] at hk
 ·intro k hk
  simp only [Value.ownBlock,Option.some.injEq] at hk
  subst hk
  rcases Nat.lt_or_ge g w.heap.size with h|h
  ·exact h
  ·rw [Array.getElem?_eq_none h] at hh;cases hh
def RScanLoop (w wr:World) (l:List UInt8) (a:Nat) (ts:List Tok) (tv:Value):Prop:=
 ts.length≤a∧wr.ownsRow w.heap.size 92 3 tv ts.length (toksC ts)∧Ext w wr∧MaxV wr∧scanGo l a ts=scanT l
structure RMid (w wr W:World) (a k:Nat) (t:List UInt8) (ts:List Tok) (tv:Value):Prop where
 blk:Blk W wr.heap.size 92 #[.int .i64 (k:Int),.int .i64 (a:Int),str t]
 row:W.ownsRow w.heap.size 92 3 tv ts.length (toksC ts)
 own:∀b,tv.ownBlock=some b→w.heap.size≤b∧b<wr.heap.size
 ext:Ext w W
theorem RMid.start {w wr:World} {a k:Nat} {t:List UInt8} {ts:List Tok} {tv:Value} (hx:Ext w wr) (hr:wr.ownsRow w.heap.size 92 3 tv ts.length (toksC ts)):
  RMid w wr (wr.alloc (.cells #[.int .i64 (k:Int),.int .i64 (a:Int),str t] 92)).drew a k t ts tv:=
 ⟨(Blk.new wr _ _).drew,ownsRow_below hr (fun g _ hg=>Below.heap_alloc _ _ g hg),fun b hb=>And.intro (ownsRow_block hr b hb) (ownsRow_lt hr b hb),(hx.alloc (.cells #[.int .i64 (k:Int),.int .i64 (a:Int),str t] 92)).drewN 1⟩
theorem RMid.more {w wr W W':World} {a k:Nat} {t:List UInt8} {ts:List Tok} {tv:Value} (h:RMid w wr W a k t ts tv) (hx:Ext W W'):RMid w wr W' a k t ts tv:=
 ⟨h.blk.ext hx,ownsRow_below h.row (fun g _ hg=>Below.block hx g hg),h.own,h.ext.trans hx⟩
theorem RMid.done {w wr W W':World} {a k:Nat} {t:List UInt8} {ts:List Tok} {tv v':Value} (h:RMid w wr W a k t ts tv) (ho:Obj) (hg:wr.heap.size<W.heap.size)
  (hown:W'.ownsRow w.heap.size 92 3 v' (ts.length+1) (toksC ts++[.int .i64 (k:Int),.int .i64 (a:Int),str t])) (hgr:(W.alloc ho).grownBy W' tv.ownBlock):
  Blk W' wr.heap.size 92 #[.int .i64 (k:Int),.int .i64 (a:Int),str t]∧W'.ownsRow w.heap.size 92 3 v' (ts++[(⟨k,a,t⟩:Tok)]).length (toksC (ts++[(⟨k,a,t⟩:Tok)]))∧Ext w W':=by
 refine ⟨?_,?_,?_⟩
 ·have h1:=hgr.block wr.heap.size (show wr.heap.size<(W.alloc ho).heap.size by simp;omega) (fun e=>by have:=(h.own _ e.symm).2;omega)
  exact h1.trans (h.blk.alloc ho)
 ·rw [toksC_snoc,List.length_append,List.length_singleton]
  exact hown
 ·exact (h.ext.alloc ho).grown hgr (fun b hb=>(h.own b hb).1)
theorem rpos {l:List UInt8} {a n:Nat} (_h:a+n≤l.length):(l.take ((a:Int)+(n:Int)).toNat).drop a=(l.drop a).take n:=by
 rw [show ((a:Int)+(n:Int)).toNat=a+n by omega,List.drop_take,Nat.add_sub_cancel_left]
set_option maxHeartbeats 4000000 in
set_option maxRecDepth 100000 in
theorem rscan_short (w:World) (l:List UInt8) (hm:MaxV w) (hl:l.length≤400):Calls Tryz.prog 50 #[str l] w (ScanRes w l):=by
 have HM:=Lib.hid hm
 have HT:Hid (scanGo l 0 []=scanT l):=Lib.hid (by unfold scanT scanGo;rw [if_neg (by omega)])
 have h400:¬(400:Int)<(l.length:Int):=by omega
 have HMV:=Lib.hid (fun W hx=>HM.out.ext (w':=W) hx)
 obtain ⟨i0,hi,hz0,hz1,hz2⟩:=info_parts info_tok
 clear hm
 go_enter Tryz.func50,Tryz.ntmps50
 go_wp2_with fail
 go_loopg [5,6] l.length (fun gh s5 s6 wr=>∃(a:Nat) (ts:List Tok) (tv:Value),gh=l.length-a∧s5=tv∧s6= .int .i64 (a:Int)∧a≤l.length∧RScanLoop w wr l a ts tv)
 case atStart=>exact ⟨0,[],_,rfl,rfl,rfl,Nat.zero_le _,Nat.le_refl _,⟨rfl,.inl ⟨rfl,rfl⟩⟩,Ext.refl w,HM.out,HT.out⟩
 case round=>
  obtain ⟨a,ts,tv,hgg,rfl,rfl,hal,htl,hrow,hx,hmv,hgo⟩:=hrel
  have HGG:=Lib.hid hgg
  have HGO:=Lib.hid hgo
  have HX:=Lib.hid hx
  have HROW:=Lib.hid hrow
  obtain ⟨At,ct,htv⟩:=ownsRow_shape hrow
  subst htv
  clear hgg hgo hx HT hrow
  by_cases hlt:a<l.length
  ·have hsp:=byte_space hlt
   have hbl:=byteAt_lt l a
   have HLT:=Lib.hid (fun W=>rletter_any W (byteAt l a) hbl)
   have HDG:=Lib.hid (fun W=>rdigit_any W (byteAt l a) hbl)
   have HSG:=Lib.hid (fun W=>rsign_any W (byteAt l a) hbl)
   have HX1:=Lib.hid (HX.out.alloc (.cells #[.int .i64 0,.int .i64 (a:Int),.string ⟨#[]⟩] 92))
   have HB1:=Lib.hid (Blk.new wr 92 #[.int .i64 0,.int .i64 (a:Int),.string ⟨#[]⟩])
   have hgz:=HX.out.size
   by_cases h32:byteAt l a=32
   ·have HNX:=Lib.hid (scanGo_space (ts:=ts) hlt (hsp.2 h32))
    have hb32:((byteAt l a:Int) == 32)=true:=by rw [h32];rfl
    have HMV1:=Lib.hid (HMV.out _ HX1.out)
    clear hsp h32 hmv
    go_wp2_with fail
    go_roundg (l.length-(a+1))
    case rel=>exact ⟨a+1,ts,_,rfl,rfl,by go_num,by omega,by omega,ownsRow_below HROW.out (fun g _ hg=>Below.heap_alloc _ _ g hg),HX1.out,HMV1.out,by rw [←HNX.out];exact HGO.out⟩
    case measure=>rw [HGG.out];omega
   ·have hb32:((byteAt l a:Int) == 32)=false:=by rw [beq_eq_false_iff_ne];omega
    have hnsp:l[a]?≠some 32:=fun h=>h32 (hsp.1 h)
    have ha0:(0:Int)≤(a:Int):=by omega
    have ha1:(a:Int)≤(l.length:Int):=by omega
    clear hsp h32 hmv
    cases hlet:letN (byteAt l a)
    ·rw [hlet] at HLT
     cases hdig:digN (byteAt l a)
     ·rw [hdig] at HDG
      have htk:=tok_sign hlt hlet hdig
      cases hsg:signN (byteAt l a)
      ·rw [hsg] at htk HSG
       have HR:Hid (scanT l=([],a,6)):=Lib.hid (by rw [←HGO.out];exact scanGo_none hlt hnsp htk)
       clear htk hnsp hlet hdig hsg
       go_wp2_with fail
       refine (HLT.out _).mono ?_
       rintro e w2 ⟨rfl,rfl⟩
       go_wp2_with fail
       refine (HDG.out _).mono ?_
       rintro e w2 ⟨rfl,rfl⟩
       go_wp2_with fail
       refine (HSG.out _).mono ?_
       rintro e w2 ⟨rfl,rfl⟩
       go_wp2_with fail
       go_ret3
       exact ⟨_,by rw [HR.out];rfl,by rw [HR.out];exact ⟨rfl,.inl ⟨rfl,rfl⟩⟩,HX1.out⟩
      ·rw [hsg] at htk HSG
       have HNX:=Lib.hid (scanGo_some (ts:=ts) hlt hnsp htk)
       have hw1:IntKind.i64.wrap ((a:Int)+1)=(a:Int)+1:=IntWalk.i64_in _ (by omega)
       have ha2:(0:Int)≤(a:Int)+1:=by omega
       have ha3:(a:Int)+1≤(l.length:Int):=by omega
       have ha4:(a:Int)≤(a:Int)+1:=by omega
       obtain ⟨k0,k1,k2,f0,f1,f2,hgz1⟩:=HB1.out.three
       have HTT:Hid ((l.take (a+1)).drop a=(l.drop a).take 1):=Lib.hid (by rw [List.drop_take,Nat.add_sub_cancel_left])
       clear htk hnsp hlet hdig hsg
       go_wp2_with fail
       refine (HLT.out _).mono ?_
       rintro e w2 ⟨rfl,rfl⟩
       go_wp2_with fail
       refine (HDG.out _).mono ?_
       rintro e w2 ⟨rfl,rfl⟩
       go_wp2_with fail
       refine (HSG.out _).mono ?_
       rintro e w2 ⟨rfl,rfl⟩
       go_wp2_with fail
       go_region_law (fail)
       have htlen:(List.drop a (List.take (a+1) l)).length=1:=by rw [HTT.out,List.length_take,List.length_drop];omega
       have HM2:Hid (RMid w wr _ a 3 (List.drop a (List.take (a+1) l)) ts (.slice At ts.length ct)):=Lib.hid (RMid.start HX.out HROW.out)
       rw [show ((3:Nat):Int)=3 from rfl] at HM2
       have hgw2:wr.heap.size<(wr.alloc (.cells #[.int .i64 3,.int .i64 (a:Int),str (List.drop a (List.take (a+1) l))] 92)).drew.heap.size:=by simp
       generalize (wr.alloc (.cells #[.int .i64 3,.int .i64 (a:Int),str (List.drop a (List.take (a+1) l))] 92)).drew=v2 at *
       generalize List.drop a (List.take (a+1) l)=t at *
       clear k0 k1 k2 f0 f1 f2 hgz1
       have HTL:=Lib.hid htlen
       obtain ⟨k0,k1,k2,f0,f1,f2,_⟩:=HM2.out.blk.three
       have hts:ts.length≤400:=by omega
       have hb1:ts.length+1≤maxLen:=by unfold maxLen;omega
       have hb2:(ts.length+1)*32≤140737488355328:=by omega
       have HBB1:=Lib.hid hb1
       have HBB2:=Lib.hid hb2
       have hb3:w.heap.size≤(v2.alloc (.cells #[.int .i64 3,.int .i64 (a:Int),str t] 92)).heap.size:=by have:=HM2.out.ext.size;simp;omega
       have HBB3:=Lib.hid hb3
       have HRO:Hid ((v2.alloc (.cells #[.int .i64 3,.int .i64 (a:Int),str t] 92)).ownsRow w.heap.size 92 3 (.slice At ts.length ct) ts.length (toksC ts)):=Lib.hid (ownsRow_below HM2.out.row (fun g _ hg=>Below.heap_alloc _ _ g hg))
       have HNW:=Lib.hid (news3 v2 92 (.int .i64 3) (.int .i64 (a:Int)) (str t))
       have hw2:IntKind.i64.wrap ((a:Int)+(t.length:Int))=(a:Int)+(t.length:Int):=IntWalk.i64_in _ (by omega)
       clear hb1 hb2 hb3
       go_wp2_with (at_builtin;go_must (refine wpList_append_own _ rfl _ _ 85 rfl w.heap.size 92 i0 _ 3 32 Tryz.underlying85 hi hz0 hz1 hz2 rfl (by decide) _ ts.length (toksC ts) rfl HRO.out ⟨v2.heap.size,0,none⟩ 1 1 [.int .i64 3,.int .i64 (a:Int),str t] rfl rfl HNW.out (by simp [Value.oneCell',str]) HBB1.out HBB2.out HBB3.out ?_;intro v' w' hown hgr _;have HD:=Lib.hid (HM2.out.done _ hgw2 hown hgr);obtain ⟨A',c',rfl⟩:=ownsRow_shape hown;obtain ⟨m0,m1,m2,_⟩:=HD.out.1.three;clear hown hgr))
       go_wp2_with fail
       have HMV9:=Lib.hid (HMV.out _ HD.out.2.2)
       go_roundg (l.length-(a+1))
       case rel=>exact ⟨a+1,ts++[⟨3,a,t⟩],_,rfl,rfl,by go_num,by omega,by rw [List.length_append,List.length_singleton];omega,HD.out.2.1,HD.out.2.2,HMV9.out,by rw [HTT.out,←HNX.out];exact HGO.out⟩
       case measure=>rw [HGG.out];omega
     ·rw [hdig] at HDG
      have htk:=tok_digit hlt hlet hdig
      have HRW:=Lib.hid (fun W=>rnumber_any W (l.drop a) (by rw [List.length_drop];omega))
      have hrl:=runLen_le numN (l.drop a)
      rw [List.length_drop] at hrl
      have hpos:0<runLen numN (l.drop a):=runLen_pos (by rw [List.length_drop];omega) (by rw [byteAt_drop,Nat.add_zero];unfold numN;rw [hdig];rfl)
      generalize runLen numN (l.drop a)=n at *
      have hw1:IntKind.i64.wrap ((a:Int)+(n:Int))=(a:Int)+(n:Int):=IntWalk.i64_in _ (by omega)
      have ha2:(0:Int)≤(a:Int)+(n:Int):=by omega
      have ha3:(a:Int)+(n:Int)≤(l.length:Int):=by omega
      have ha4:(a:Int)≤(a:Int)+(n:Int):=by omega
      obtain ⟨k0,k1,k2,f0,f1,f2,hgz1⟩:=HB1.out.three
      have HTT:=Lib.hid (rpos (l:=l) (a:=a) (n:=n) (by omega))
      go_wp2_with fail
      refine (HLT.out _).mono ?_
      rintro e w2 ⟨rfl,rfl⟩
      go_wp2_with fail
      refine (HDG.out _).mono ?_
      rintro e w2 ⟨rfl,rfl⟩
      go_wp2_with fail
      go_region_law (go_simp;go_at_call 68;refine (HRW.out _).mono ?_;rintro e w3 ⟨rfl,rfl⟩)
      rw [←HTT.out] at htk
      have htlen:(List.drop a (List.take ((a:Int)+(n:Int)).toNat l)).length=n:=by rw [HTT.out,List.length_take,List.length_drop];omega
      have HM2:Hid (RMid w wr _ a 1 (List.drop a (List.take ((a:Int)+(n:Int)).toNat l)) ts (.slice At ts.length ct)):=Lib.hid (RMid.start HX.out HROW.out)
      rw [show ((1:Nat):Int)=1 from rfl] at HM2
      have hgw2:wr.heap.size<(wr.alloc (.cells #[.int .i64 1,.int .i64 (a:Int),str (List.drop a (List.take ((a:Int)+(n:Int)).toNat l))] 92)).drew.heap.size:=by simp
      generalize (wr.alloc (.cells #[.int .i64 1,.int .i64 (a:Int),str (List.drop a (List.take ((a:Int)+(n:Int)).toNat l))] 92)).drew=v2 at *
      generalize List.drop a (List.take ((a:Int)+(n:Int)).toNat l)=t at *
      clear k0 k1 k2 f0 f1 f2 hgz1
      obtain ⟨q0,q1,q2,_⟩:=HM2.out.blk.three
      have HTL:=Lib.hid htlen
      have HP:=Lib.hid (fun W=>rparse7_any W t)
      by_cases hc0:code7 t=0
      ·rw [if_pos hc0] at htk
       have HNX:=Lib.hid (scanGo_some (ts:=ts) hlt hnsp htk)
       have HC:=Lib.hid hc0
       clear htk hnsp hlet hdig hc0
       go_wp2_with fail
       refine (HP.out _).mono ?_
       rintro e w5 ⟨v5,rfl,hr5,hx5⟩
       obtain ⟨b5,n5,A5,c5,n6,A6,c6,rfl⟩:=hr5.shape
       have HM3:=Lib.hid (HM2.out.more (hx5.alloc (.cells #[.bool b5,.slice A5 n5 c5,.slice A6 n6 c6] 117)))
       have hgw3:wr.heap.size<(w5.alloc (.cells #[.bool b5,.slice A5 n5 c5,.slice A6 n6 c6] 117)).heap.size:=by have:=hx5.size;simp;omega
       clear hr5 hx5 q0 q1 q2
       rw [HC.out]
       go_upto_region 18 with fail
       generalize w5.alloc (.cells #[.bool b5,.slice A5 n5 c5,.slice A6 n6 c6] 117)=v3 at *
       obtain ⟨k0,k1,k2,f0,f1,f2,_⟩:=HM3.out.blk.three
       have hts:ts.length≤400:=by omega
       have hb1:ts.length+1≤maxLen:=by unfold maxLen;omega
       have hb2:(ts.length+1)*32≤140737488355328:=by omega
       have HBB1:=Lib.hid hb1
       have HBB2:=Lib.hid hb2
       have hb3:w.heap.size≤(v3.alloc (.cells #[.int .i64 1,.int .i64 (a:Int),str t] 92)).heap.size:=by have:=HM3.out.ext.size;simp;omega
       have HBB3:=Lib.hid hb3
       have HRO:Hid ((v3.alloc (.cells #[.int .i64 1,.int .i64 (a:Int),str t] 92)).ownsRow w.heap.size 92 3 (.slice At ts.length ct) ts.length (toksC ts)):=Lib.hid (ownsRow_below HM3.out.row (fun g _ hg=>Below.heap_alloc _ _ g hg))
       have HNW:=Lib.hid (news3 v3 92 (.int .i64 1) (.int .i64 (a:Int)) (str t))
       have hw2:IntKind.i64.wrap ((a:Int)+(t.length:Int))=(a:Int)+(t.length:Int):=IntWalk.i64_in _ (by omega)
       clear hb1 hb2 hb3
       go_wp2_with (at_builtin;go_must (refine wpList_append_own _ rfl _ _ 85 rfl w.heap.size 92 i0 _ 3 32 Tryz.underlying85 hi hz0 hz1 hz2 rfl (by decide) _ ts.length (toksC ts) rfl HRO.out ⟨v3.heap.size,0,none⟩ 1 1 [.int .i64 1,.int .i64 (a:Int),str t] rfl rfl HNW.out (by simp [Value.oneCell',str]) HBB1.out HBB2.out HBB3.out ?_;intro v' w' hown hgr _;have HD:=Lib.hid (HM3.out.done _ hgw3 hown hgr);obtain ⟨A',c',rfl⟩:=ownsRow_shape hown;obtain ⟨m0,m1,m2,_⟩:=HD.out.1.three;clear hown hgr))
       go_wp2_with fail
       have HMV9:=Lib.hid (HMV.out _ HD.out.2.2)
       go_roundg (l.length-(a+n))
       case rel=>exact ⟨a+n,ts++[⟨1,a,t⟩],_,rfl,rfl,by go_num,by omega,by rw [List.length_append,List.length_singleton];omega,HD.out.2.1,HD.out.2.2,HMV9.out,by rw [HTT.out,←HNX.out];exact HGO.out⟩
       case measure=>rw [HGG.out];omega
      ·rw [if_neg hc0] at htk
       have HR:Hid (scanT l=([],a,6)):=Lib.hid (by rw [←HGO.out];exact scanGo_none hlt hnsp htk)
       have hcn:((code7 t:Int) != 0)=true:=by rw [bne_iff_ne];omega
       clear htk hnsp hlet hdig hc0
       go_wp2_with fail
       refine (HP.out _).mono ?_
       rintro e w5 ⟨v5,rfl,hr5,hx5⟩
       obtain ⟨b5,n5,A5,c5,n6,A6,c6,rfl⟩:=hr5.shape
       have HM3:=Lib.hid (HM2.out.more (hx5.alloc (.cells #[.bool b5,.slice A5 n5 c5,.slice A6 n6 c6] 117)))
       have hgw3:wr.heap.size<(w5.alloc (.cells #[.bool b5,.slice A5 n5 c5,.slice A6 n6 c6] 117)).heap.size:=by have:=hx5.size;simp;omega
       clear hr5 hx5 q0 q1 q2
       go_wp2_with fail
       go_ret3
       exact ⟨_,by rw [HR.out];rfl,by rw [HR.out];exact ⟨rfl,.inl ⟨rfl,rfl⟩⟩,HM3.out.ext⟩
    ·rw [hlet] at HLT
     have htk:=tok_letter hlt hlet
     have hrw:refWord (l.drop a)=runLen wordN (l.drop a):=by
      unfold refWord
      rw [if_pos (by rw [byteAt_drop,Nat.add_zero];exact hlet)]
     have HRW:=Lib.hid (fun W=>rword_any W (l.drop a) (by rw [List.length_drop];omega))
     rw [hrw] at HRW
     have hrl:=runLen_le wordN (l.drop a)
     rw [List.length_drop] at hrl
     have hpos:0<runLen wordN (l.drop a):=runLen_pos (by rw [List.length_drop];omega) (by rw [byteAt_drop,Nat.add_zero];unfold wordN;rw [hlet];rfl)
     clear hrw
     generalize runLen wordN (l.drop a)=n at *
     have hw1:IntKind.i64.wrap ((a:Int)+(n:Int))=(a:Int)+(n:Int):=IntWalk.i64_in _ (by omega)
     have ha2:(0:Int)≤(a:Int)+(n:Int):=by omega
     have ha3:(a:Int)+(n:Int)≤(l.length:Int):=by omega
     have ha4:(a:Int)≤(a:Int)+(n:Int):=by omega
     obtain ⟨k0,k1,k2,f0,f1,f2,hgz1⟩:=HB1.out.three
     have HTT:=Lib.hid (rpos (l:=l) (a:=a) (n:=n) (by omega))
     go_wp2_with fail
     refine (HLT.out _).mono ?_
     rintro e w2 ⟨rfl,rfl⟩
     go_wp2_with fail
     go_region_law (go_simp;go_at_call 66;refine (HRW.out _).mono ?_;rintro e w3 ⟨rfl,rfl⟩)
     have htlen:(List.drop a (List.take ((a:Int)+(n:Int)).toNat l)).length=n:=by rw [HTT.out,List.length_take,List.length_drop];omega
     have HM2:Hid (RMid w wr _ a 2 (List.drop a (List.take ((a:Int)+(n:Int)).toNat l)) ts (.slice At ts.length ct)):=Lib.hid (RMid.start HX.out HROW.out)
     rw [show ((2:Nat):Int)=2 from rfl] at HM2
     have hgw2:wr.heap.size<(wr.alloc (.cells #[.int .i64 2,.int .i64 (a:Int),str (List.drop a (List.take ((a:Int)+(n:Int)).toNat l))] 92)).drew.heap.size:=by simp
     generalize (wr.alloc (.cells #[.int .i64 2,.int .i64 (a:Int),str (List.drop a (List.take ((a:Int)+(n:Int)).toNat l))] 92)).drew=v2 at *
     generalize List.drop a (List.take ((a:Int)+(n:Int)).toNat l)=t at *
     clear k0 k1 k2 f0 f1 f2 hgz1
     obtain ⟨q0,q1,q2,_⟩:=HM2.out.blk.three
     have HTL:=Lib.hid htlen
     rcases Nat.lt_or_ge 24 n with h24|h24
     ·rw [if_neg (by omega)] at htk
      have HR:Hid (scanT l=([],a,6)):=Lib.hid (by rw [←HGO.out];exact scanGo_none hlt hnsp htk)
      have h24i:(24:Int)<(t.length:Int):=by omega
      clear htk hnsp hlet htlen
      go_wp2_with fail
      go_ret3
      exact ⟨_,by rw [HR.out];rfl,by rw [HR.out];exact ⟨rfl,.inl ⟨rfl,rfl⟩⟩,HM2.out.ext⟩
     ·rw [if_pos h24] at htk
      have HNX:=Lib.hid (scanGo_some (ts:=ts) hlt hnsp htk)
      have h24i:¬(24:Int)<(t.length:Int):=by omega
      clear htk hnsp hlet q0 q1 q2
      obtain ⟨k0,k1,k2,f0,f1,f2,_⟩:=HM2.out.blk.three
      have hts:ts.length≤400:=by omega
      have hb1:ts.length+1≤maxLen:=by unfold maxLen;omega
      have hb2:(ts.length+1)*32≤140737488355328:=by omega
      have HBB1:=Lib.hid hb1
      have HBB2:=Lib.hid hb2
      have hb3:w.heap.size≤(v2.alloc (.cells #[.int .i64 2,.int .i64 (a:Int),str t] 92)).heap.size:=by have:=HM2.out.ext.size;simp;omega
      have HBB3:=Lib.hid hb3
      have HRO:Hid ((v2.alloc (.cells #[.int .i64 2,.int .i64 (a:Int),str t] 92)).ownsRow w.heap.size 92 3 (.slice At ts.length ct) ts.length (toksC ts)):=Lib.hid (ownsRow_below HM2.out.row (fun g _ hg=>Below.heap_alloc _ _ g hg))
      have HNW:=Lib.hid (news3 v2 92 (.int .i64 2) (.int .i64 (a:Int)) (str t))
      have hw2:IntKind.i64.wrap ((a:Int)+(t.length:Int))=(a:Int)+(t.length:Int):=IntWalk.i64_in _ (by omega)
      clear hb1 hb2 hb3
      go_wp2_with (at_builtin;go_must (refine wpList_append_own _ rfl _ _ 85 rfl w.heap.size 92 i0 _ 3 32 Tryz.underlying85 hi hz0 hz1 hz2 rfl (by decide) _ ts.length (toksC ts) rfl HRO.out ⟨v2.heap.size,0,none⟩ 1 1 [.int .i64 2,.int .i64 (a:Int),str t] rfl rfl HNW.out (by simp [Value.oneCell',str]) HBB1.out HBB2.out HBB3.out ?_;intro v' w' hown hgr _;have HD:=Lib.hid (HM2.out.done _ hgw2 hown hgr);obtain ⟨A',c',rfl⟩:=ownsRow_shape hown;obtain ⟨m0,m1,m2,_⟩:=HD.out.1.three;clear hown hgr))
      go_wp2_with fail
      have HMV9:=Lib.hid (HMV.out _ HD.out.2.2)
      go_roundg (l.length-(a+n))
      case rel=>exact ⟨a+n,ts++[⟨2,a,t⟩],_,rfl,rfl,by go_num,by omega,by rw [List.length_append,List.length_singleton];omega,HD.out.2.1,HD.out.2.2,HMV9.out,by rw [HTT.out,←HNX.out];exact HGO.out⟩
      case measure=>rw [HGG.out];omega
  ·obtain rfl:a=l.length:=by omega
   have HR:Hid (scanT l=(ts,l.length,0)):=Lib.hid (by rw [←HGO.out];exact scanGo_end (Nat.le_refl _))
   clear hmv
   go_wp2_with fail
   go_ret3
   refine ⟨_,by rw [HR.out];rfl,?_,HX.out⟩
   rw [HR.out]
   exact HROW.out
set_option maxRecDepth 100000 in
theorem rscan_long (w:World) (l:List UInt8) (h:400<l.length):Calls Tryz.prog 50 #[str l] w (ScanRes w l):=by
 have hc:scanT l=([],0,7):=if_pos h
 have h':(400:Int)<(l.length:Int):=by omega
 have HC:=Lib.hid hc
 clear h hc
 go_enter Tryz.func50,Tryz.ntmps50
 go_wp2_with fail
 go_ret3
 exact ⟨.slice none 0 0,by rw [HC.out];rfl,by rw [HC.out];exact ⟨rfl,.inl ⟨rfl,rfl⟩⟩,Ext.refl w⟩
theorem rscan_any (w:World) (l:List UInt8) (hm:MaxV w):Calls Tryz.prog 50 #[str l] w (ScanRes w l):=by
 rcases Nat.lt_or_ge 400 l.length with hl|hl
 ·exact rscan_long w l hl
 ·exact rscan_short w l hm hl
end Big
end Go.Proofs.YtaccjdbbkmhanaaGreatDoor
namespace Go.Proofs.YtaccjdbbkmhanaaGreatDoor
namespace Big
open Go.RowKit
def TokRow (w:World) (v:Value) (ts:List Tok):Prop:=∃B,w.ownsRow B 92 3 v ts.length (toksC ts)
theorem TokRow.ext {w w':World} {v:Value} {ts:List Tok} (h:TokRow w v ts) (hx:Ext w w'):TokRow w' v ts:=by
 obtain ⟨B,h⟩:=h
 exact ⟨B,ownsRow_below h (fun g _ hg=>Below.block hx g hg)⟩
theorem toksC_get (ts:List Tok) (i j:Nat) (hi:i<ts.length) (hj:j<3):(toksC ts)[i*3+j]? =(tokC ts[i])[j]? :=by
 induction ts generalizing i with
 |nil=>simp at hi
 |cons t ts ih=>
  have hl:(tokC t).length=3:=rfl
  unfold toksC at *
  rw [List.flatMap_cons]
  cases i with
  |zero=>
   rw [Nat.zero_mul,Nat.zero_add,List.getElem?_append_left (by omega)]
   rfl
  |succ i=>
   rw [List.getElem?_append_right (by omega),hl,show (i+1)*3+j-3=i*3+j by omega,ih i (by simpa using hi)]
   rfl
theorem TokRow.cells {w:World} {v:Value} {ts:List Tok} (h:TokRow w v ts):∃A c,v= .slice A ts.length c∧(0<ts.length→∃g,A=some ⟨g,0,none⟩∧∀i (hi:i<ts.length),w.cell? ⟨g,i*3,none⟩=some (.int .i64 (ts[i].kind:Int))∧w.cell? ⟨g,i*3+1,none⟩=some (.int .i64 (ts[i].at_:Int))∧w.cell? ⟨g,i*3+2,none⟩=some (str ts[i].text)):=by
 obtain ⟨B,h⟩:=h
 rcases h.2 with ⟨h1,h2⟩|⟨g,cap,cur,rfl,_⟩
 ·exact ⟨none,0,by rw [h1,h2],fun h3=>by omega⟩
 ·refine ⟨_,_,rfl,fun _=>⟨g,rfl,fun i hi=>⟨?_,?_,?_⟩⟩⟩
  ·have h3:=h.cellAt (i*3+0) (by omega)
   rw [toksC_get ts i 0 hi (by omega)] at h3
   exact h3
  ·have h3:=h.cellAt (i*3+1) (by omega)
   rw [toksC_get ts i 1 hi (by omega)] at h3
   exact h3
  ·have h3:=h.cellAt (i*3+2) (by omega)
   rw [toksC_get ts i 2 hi (by omega)] at h3
   exact h3
end Big
end Go.Proofs.YtaccjdbbkmhanaaGreatDoor
namespace Go.Proofs.YtaccjdbbkmhanaaGreatDoor
namespace Big
open Go.RowKit
def cells8 (bs:List UInt8):Array Value:=(bs.map d8).toArray
theorem Arr8.block {w:World} {g:Nat} {bs:List UInt8} (h:Blk w g 5 (cells8 bs)) (hm:bs.length≤2147483648):Arr8 w (.slice (some ⟨g,0,none⟩) bs.length bs.length) bs:=by
 refine ⟨some ⟨g,0,none⟩,bs.length,by rw [List.length_map],by rw [List.length_map];omega,(bound32 hm).1,fun _=>⟨g,0,rfl,h.lt,fun j u hj=> ?_⟩⟩
 rw [h.cell,Nat.zero_add]
 unfold cells8
 rw [List.getElem?_toArray]
 exact hj
end Big
end Go.Proofs.YtaccjdbbkmhanaaGreatDoor
