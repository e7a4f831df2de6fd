import Derived.Test.YtaccjdbbkmhanaaGreatDoorM18
import Derived.Test.YtaccjdbbkmhanaaGreatDoorM10
import Derived.Test.YtaccjdbbkmhanaaGreatDoorM15
import Derived.Test.YtaccjdbbkmhanaaGreatDoorM16
import Derived.Laws.Closers25
import Derived.Test.YtaccjdbbkmhanaaGreatDoorM4
namespace Go.Proofs.YtaccjdbbkmhanaaGreatDoor
namespace Big
open Go.RowKit
theorem make_low (n:Nat) (d:Nat):makeN (n:Int) ((d:Nat):Int)=lowN (n:Int) d∧makeD (n:Int) ((d:Nat):Int)=lowD (n:Int) d:=by
 unfold makeN lowN makeD lowD
 have h1:decide ((n:Int)<0)=false:=by simp
 have h2:decide ((d:Int)<0)=false:=by simp
 rw [h1,h2,Int.natAbs_natCast,Int.natAbs_natCast]
 exact ⟨rfl,rfl⟩
set_option maxRecDepth 100000 in
theorem rparse7_long (w:World) (l:List UInt8) (h:400<l.length):Calls Tryz.prog 69 #[str l] w (ParseRes7 w l):=by
 have hc:code7 l=7:=if_pos h
 have h':(400:Int)<(l.length:Int):=by omega
 have HC:=Lib.hid hc
 clear h hc
 go_enter Tryz.func69,Tryz.ntmps69
 go_wp2_with fail
 refine bodyPost_ret (v:= .tuple #[.agg #[.bool false,.slice none 0 0,.slice none 0 0],.int .i64 7]) (by simp [results,Tryz.results69,go_sem]) rfl ?_
 exact ⟨_,by rw [HC.out];rfl,by rw [HC.out];exact IsRat.zero _ _,(Ext.refl w).alloc _⟩
set_option maxHeartbeats 1000000 in
set_option maxRecDepth 100000 in
theorem rparse7_any (w:World) (l:List UInt8):Calls Tryz.prog 69 #[str l] w (ParseRes7 w l):=by
 rcases Nat.lt_or_ge 400 l.length with hl|hl
 ·exact rparse7_long w l hl
 have HD:=Lib.hid (fun W=>rdecimal_any W l (by omega))
 have h400:¬(400:Int)<(l.length:Int):=by omega
 cases hg:good7 l
 ·have HC:Hid (code7 l=6):=Lib.hid (by unfold code7;rw [if_neg (by omega),hg];rfl)
  have HG:=Lib.hid hg
  clear hg
  go_enter Tryz.func69,Tryz.ntmps69
  go_wp2_with fail
  refine (HD.out _).mono ?_
  rintro e w1 ⟨a,b,rfl,_,hx1⟩
  rw [HG.out]
  have HX1:=Lib.hid (((Ext.refl w).alloc (.cells #[Value.bool false,Value.slice none 0 0,Value.slice none 0 0] 117)).trans hx1)
  have hk:=(Blk.new w 117 #[Value.bool false,Value.slice none 0 0,Value.slice none 0 0]).ext hx1
  have HB1:=Lib.hid hk
  obtain ⟨k0,k1,k2,f0,f1,f2,hgz⟩:=hk.three
  clear hx1 hk
  go_wp2_with fail
  obtain ⟨hr0,hr1,hr2⟩:=three_set HB1.out (.bool false) (.slice none 0 0) (.slice none 0 0)
  refine bodyPost_ret (v:= .tuple #[.agg #[.bool false,.slice none 0 0,.slice none 0 0],.int .i64 6]) (by simp [results,Tryz.results69,go_sem,hr0,hr1,hr2]) rfl ?_
  exact ⟨_,by rw [HC.out];rfl,by rw [HC.out];exact IsRat.zero _ _,((HX1.out.setCell (Nat.le_refl _) _).setCell (Nat.le_refl _) _).setCell (Nat.le_refl _) _⟩
 ·have HC:Hid (code7 l=0):=Lib.hid (by unfold code7;rw [if_neg (by omega),hg];rfl)
  have HG:=Lib.hid hg
  have hall:allD l=true:=by
   rw [good7_eq,Bool.and_eq_true] at hg
   exact hg.2
  have hpl:(part l).length≤l.length:=by
   rcases dot_split l with ⟨_,h1⟩|⟨_,_,h2⟩
   ·have:=congrArg List.length h1
    simp at this
    omega
   ·rw [h2];simp
  have hwl:=whole_le l
  have HNUM:Hid (num7 l=lowN (numOf (whole l++part l)) (10 ^ (part l).length)):=Lib.hid rfl
  have HDEN:Hid (den7 l=lowD (numOf (whole l++part l)) (10 ^ (part l).length)):=Lib.hid rfl
  unfold allD at hall
  clear hg
  have hadd:∀W',(binOp .add 9 (str (whole l)) (str (part l))).run Tryz.prog W'= .ok (str (whole l++part l)) W':=run_add_str _ _ (by omega)
  have hL:(whole l++part l).length≤800:=by rw [List.length_append];omega
  go_enter Tryz.func69,Tryz.ntmps69
  go_wp2_with fail
  refine (HD.out _).mono ?_
  rintro e w1 ⟨a,b,rfl,hab,hx1⟩
  obtain ⟨rfl,rfl⟩:=hab HG.out
  rw [HG.out]
  generalize whole l=W at *
  generalize part l=P at *
  have HX1:=Lib.hid (((Ext.refl w).alloc (.cells #[Value.bool false,Value.slice none 0 0,Value.slice none 0 0] 117)).trans hx1)
  have HB1:=Lib.hid ((Blk.new w 117 #[Value.bool false,Value.slice none 0 0,Value.slice none 0 0]).ext hx1)
  obtain ⟨cb,hcv,hcb⟩:=run_bytesAt w1 (W++P)
  have HBY:=Lib.hid (fun j h=>bytesAt_cell w1 (W++P) j h)
  have HXB:=Lib.hid (bytesAt_ext w1 (W++P))
  have HLT:=Lib.hid (bytesAt_lt w1 (W++P))
  clear hx1 hab HD HG
  generalize W++P=L at *
  generalize bytesAt w1 L=wb at *
  have HALL:=Lib.hid hall
  clear hall
  go_wp2_with fail
  clear hcv hadd
  go_loopw [7,28] (fun s7 s28 wr=>∃(k m:Nat) (A:Option Addr) (c:Nat),k≤L.length∧s28= .int .i64 (k:Int)∧s7= .slice A m c∧Own (w.heap.size+1) wr s7 (limbs (numOf (L.take k)))∧Ext wb wr) (fun _ s28 _=>L.length-(intOf s28).toNat)
  case atStart=>exact ⟨0,0,none,0,Nat.zero_le _,rfl,rfl,Own.none_ _ _,Ext.refl _⟩
  case round=>
   obtain ⟨k,m,A,c,hk,rfl,rfl,ho,hx⟩:=hrel
   have HO:=Lib.hid ho
   have HX:=Lib.hid hx
   have hsz:w.heap.size+1≤wr.heap.size:=by
    have h1:=HB1.out.lt
    have h2:=HLT.out
    have h3:=hx.size
    omega
   have hll:(limbs (numOf (L.take k))).length≤800:=by
    refine limbs_dec (numOf_lt _ ?_) (by rw [List.length_take];omega)
    rw [List.all_eq_true]
    intro x hxm
    exact List.all_eq_true.1 HALL.out x (List.mem_of_mem_take hxm)
   by_cases hlt:k<L.length
   ·have hby:=(hx.cell HLT.out).trans (HBY.out k hlt)
    have hbe:=byteAt_eq L k hlt
    have hdg:isDig L[k]=true:=List.all_eq_true.1 HALL.out _ (List.getElem_mem hlt)
    have hnt:=numOf_take L k hlt
    rw [←hbe] at hnt
    unfold isDig at hdg
    rw [←hbe] at hdg
    simp only [Bool.and_eq_true,decide_eq_true_eq] at hdg
    obtain ⟨d1,d2⟩:=hdg
    generalize byteAt L k=b at *
    have E1:=Lib.hid (show ((b:Int)-48)=((b-48:Nat):Int) by omega)
    have HS:=Lib.hid (rsmall_any wr _ _ 10 (b-48) ho.arr (by omega) (by decide) (by omega))
    rw [val_limbs] at HS
    have HN:=Lib.hid (show numOf (L.take (k+1))=numOf (L.take k)*10+(b-48) by rw [hnt];omega)
    clear ho hx hbe hnt hll hcb
    go_wp2_with fail
    rw [E1.out]
    refine HS.out.mono ?_
    rintro e w2 ⟨v2,rfl,ho2,hx2⟩
    rw [←HN.out] at ho2
    have HO2:=Lib.hid (ho2.mono hsz)
    have HX2:=Lib.hid (HX.out.trans hx2)
    obtain ⟨n2,A2,c2,rfl⟩:=ho2.shape
    clear ho2 hx2
    go_wp2_with fail
    go_roundw
    case rel=>exact ⟨k+1,n2,A2,c2,by omega,by go_num,rfl,HO2.out,HX2.out⟩
    case measure=>simp [intOf];omega
   ·obtain rfl:k=L.length:=by omega
    rw [List.take_of_length_le (Nat.le_refl _)] at HO ho hll
    have HIN:=Lib.hid (rnat_any wr false _ _ ho.arr (by omega))
    rw [val_limbs] at HIN
    have hsg:sgn false (numOf L)=((numOf L:Nat):Int):=rfl
    rw [hsg] at HIN
    have HTEN:=Lib.hid (fun W'=>rten_any W' P.length (by omega))
    have hte:(limbs (10 ^ P.length)).length≤801:=limbs_dec (k:=P.length+1) (Nat.pow_lt_pow_right (by decide) (by omega)) (by omega)
    have HOF:=Lib.hid (fun W' a b h1 h2=>rof7_any W' a b ((numOf L:Nat):Int) ((10 ^ P.length:Nat):Int) h1 h2 (by rw [Int.natAbs_natCast];omega) (by rw [Int.natAbs_natCast];omega) (by
     have:0<10 ^ P.length:=Nat.pow_pos (by decide)
     omega))
    rw [(make_low (numOf L) (10 ^ P.length)).1,(make_low (numOf L) (10 ^ P.length)).2] at HOF
    have HXX:=Lib.hid ((HX1.out.trans HXB.out).trans hx)
    have HBB:=Lib.hid (((HB1.out.ext HXB.out)).ext hx)
    clear ho hx hll hte hsg hcb
    go_wp2_with fail
    refine HIN.out.mono ?_
    rintro e w5 ⟨v5,rfl,hi5,hx5⟩
    have HI5:=Lib.hid hi5
    obtain ⟨b5,n5,A5,c5,rfl⟩:=hi5.shape
    have HX5:=Lib.hid (HXX.out.trans hx5)
    have HB5:=Lib.hid (HBB.out.ext hx5)
    clear hi5 hx5
    go_wp2_with fail
    refine (HTEN.out _).mono ?_
    rintro e w6 ⟨v6,rfl,hi6,hx6⟩
    have HI6:=Lib.hid hi6
    obtain ⟨b6,n6,A6,c6,rfl⟩:=hi6.shape
    have HI5':=Lib.hid (HI5.out.ext hx6)
    have HX6:=Lib.hid (HX5.out.trans hx6)
    have HB6:=Lib.hid (HB5.out.ext hx6)
    clear hi6 hx6
    go_wp2_with fail
    refine (HOF.out _ _ _ HI5'.out.arr HI6.out.arr).mono ?_
    rintro e w8 ⟨v8,rfl,hr8,hx8⟩
    obtain ⟨b8,n8,A8,c8,n8',A8',c8',rfl⟩:=hr8.shape
    have HR8:=Lib.hid hr8
    have HX8:=Lib.hid (HX6.out.trans hx8)
    have hk:=HB6.out.ext hx8
    have HB8:=Lib.hid hk
    have HSZ7:=Lib.hid HX6.out.size
    have HLT7:=Lib.hid HB6.out.lt
    clear hr8 hx8
    obtain ⟨k0,k1,k2,f0,f1,f2,hgz⟩:=hk.three
    clear hk
    go_wp2_with fail
    obtain ⟨hr0,hr1,hr2⟩:=three_set HB8.out (.bool b8) (.slice A8 n8 c8) (.slice A8' n8' c8')
    refine bodyPost_ret (v:= .tuple #[.agg #[.bool b8,.slice A8 n8 c8,.slice A8' n8' c8'],.int .i64 0]) (by simp [results,Tryz.results69,go_sem,hr0,hr1,hr2]) rfl ?_
    have hfin:=HR8.out.put (w:=w) HLT7.out HSZ7.out
    exact ⟨_,by rw [HC.out];rfl,by rw [HC.out,if_pos rfl,if_pos rfl,HNUM.out,HDEN.out];exact hfin,((HX8.out.setCell (Nat.le_refl _) _).setCell (Nat.le_refl _) _).setCell (Nat.le_refl _) _⟩
end Big
end Go.Proofs.YtaccjdbbkmhanaaGreatDoor
namespace Go.Proofs.YtaccjdbbkmhanaaGreatDoor
namespace Big
open Go.RowKit
set_option maxRecDepth 100000 in
theorem rname_any (w:World) (l:List UInt8) (hl:l.length≤1073741824):Calls Tryz.prog 85 #[str l] w fun e w'=>e= .returned (.bool (nameB l))∧Ext w w':=by
 have HW:=Lib.hid (fun W=>rWord_any W l hl)
 have HR:=Lib.hid (fun W=>rreserved_any W l)
 have h:nameB l=(wordB l && !reservedB l):=by rw [reservedB_mem];rfl
 have H:=Lib.hid h
 clear h
 cases hw:wordB l
 ·rw [hw] at HW H
  clear hw
  go_enter Tryz.func85,Tryz.ntmps85
  go_wp2_with fail
  refine (HW.out _).mono ?_
  rintro e w1 ⟨rfl,rfl⟩
  go_wp2_with fail
  go_ret
  exact ⟨by rw [H.out];rfl,Ext.refl _⟩
 ·rw [hw] at HW H
  clear hw
  generalize reservedB l=r at *
  go_enter Tryz.func85,Tryz.ntmps85
  go_wp2_with fail
  refine (HW.out _).mono ?_
  rintro e w1 ⟨rfl,rfl⟩
  go_wp2_with fail
  refine (HR.out _).mono ?_
  rintro e w2 ⟨rfl,hx⟩
  have HX:=Lib.hid hx
  clear hx
  go_wp2_with fail
  go_ret
  exact ⟨by rw [H.out];rfl,HX.out⟩
theorem bytes_empty (t:List UInt8):(⟨t.toArray⟩:ByteArray).toList.isEmpty=(t == []):=by
 rw [←decide_eq_emptyBytes,Bool.eq_iff_iff]
 simp only [decide_eq_true_eq,beq_iff_eq]
 constructor
 ·intro h
  have:=congrArg (fun b:ByteArray=>b.data.toList) h
  simpa using this
 ·intro h;subst h;rfl
def ndV (x:Nd):Value:= .agg #[.int .i64 x.kind,.int .i64 x.a,.int .i64 x.b,.int .i64 x.n,str x.text]
theorem plainM_10 (n:Int):decide (-64≤n∧n≤64)=(decide (-64≤n) && decide (n≤64)):=by simp
set_option maxRecDepth 100000 in
set_option maxHeartbeats 1000000 in
theorem plain_any (w:World) (x:Nd) (hl:x.text.length≤1073741824):Calls Tryz.prog 64 #[ndV x] w fun e w'=>e= .returned (.bool (plainB x))∧Ext w w':=by
 obtain ⟨k,a,b,n,t⟩:=x
 simp only [ndV] at hl ⊢
 have HP:=Lib.hid (fun W=>rparse7_any W t)
 have HN:=Lib.hid (fun W=>rname_any W t hl)
 obtain ⟨s,hs⟩:∃s:ByteArray,s=⟨t.toArray⟩:=⟨_,rfl⟩
 have hst:str t= .string s:=by rw [hs];rfl
 have hne:s.toList.isEmpty=(t == []):=by rw [hs];exact bytes_empty t
 rw [hst] at HP HN ⊢
 clear hs hst
 have hb0:=Blk.new w 50 #[.int .i64 k,.int .i64 a,.int .i64 b,.int .i64 n,.string s]
 have HX0:=Lib.hid ((Ext.refl w).alloc (.cells #[.int .i64 k,.int .i64 a,.int .i64 b,.int .i64 n,.string s] 50))
 have HB0:=Lib.hid hb0
 obtain ⟨q0,q1,q2,q3,q4⟩:=hb0.five
 clear hb0
 have hM:∀h:Bool,(plainB ⟨k,a,b,n,t⟩=(plainT ⟨k,a,b,n,t⟩ && plainM ⟨k,a,b,n,t⟩)):=fun _=>rfl
 have key:(k=1)∨(k=2)∨(k≠1∧k≠2):=by omega
 rcases key with rfl|rfl|⟨hk1,hk2⟩
 ·by_cases hc0:code7 t=0
  ·have H:Hid (plainB ⟨1,a,b,n,t⟩=(n == 0)):=Lib.hid (by unfold plainB plainT plainM;simp [hc0])
   have HC:=Lib.hid hc0
   clear hc0 hM hne
   generalize plainB ⟨1,a,b,n,t⟩=r at *
   go_enter Tryz.func64,Tryz.ntmps64
   go_wp2_with fail
   refine (HP.out _).mono ?_
   rintro e w5 ⟨v5,rfl,hr5,hx5⟩
   obtain ⟨b5,n5,A5,c5,n6,A6,c6,rfl⟩:=hr5.shape
   have hx6:=hx5.alloc (.cells #[.bool b5,.slice A5 n5 c5,.slice A6 n6 c6] 117)
   have HX6:=Lib.hid (HX0.out.trans hx6)
   obtain ⟨q0,q1,q2,q3,q4⟩:=(HB0.out.ext hx6).five
   clear hr5 hx5 hx6
   rw [HC.out]
   go_wp2_with fail
   go_ret
   exact ⟨by rw [H.out];rfl,HX6.out⟩
  ·have H:Hid (plainB ⟨1,a,b,n,t⟩=false):=Lib.hid (by unfold plainB plainT plainM;simp [hc0])
   have hcb:((code7 t:Int) != 0)=true:=by
    rw [bne_iff_ne];omega
   clear hc0 hM hne
   generalize plainB ⟨1,a,b,n,t⟩=r at *
   generalize hce:(code7 t:Int)=ce at *
   clear q0 q1 q2 q3
   go_enter Tryz.func64,Tryz.ntmps64
   obtain ⟨q0,q1,q2,q3,_⟩:=HB0.out.five
   go_wp2_with fail
   refine (HP.out _).mono ?_
   rintro e w5 ⟨v5,rfl,hr5,hx5⟩
   obtain ⟨b5,n5,A5,c5,n6,A6,c6,rfl⟩:=hr5.shape
   have hx6:=hx5.alloc (.cells #[.bool b5,.slice A5 n5 c5,.slice A6 n6 c6] 117)
   have HX6:=Lib.hid (HX0.out.trans hx6)
   clear hr5 hx5 hx6
   rw [hce]
   go_wp2_with fail
   go_ret
   exact ⟨by rw [H.out];rfl,HX6.out⟩
 ·have H:Hid (plainB ⟨2,a,b,n,t⟩=(nameB t && (n == 0))):=Lib.hid (by unfold plainB plainT plainM;simp)
  generalize plainB ⟨2,a,b,n,t⟩=r at *
  clear hM hne
  cases hnb:nameB t
  ·rw [hnb] at HN H
   clear hnb
   go_enter Tryz.func64,Tryz.ntmps64
   go_wp2_with fail
   refine (HN.out _).mono ?_
   rintro e w5 ⟨rfl,hx5⟩
   have HX6:=Lib.hid (HX0.out.trans hx5)
   clear hx5
   go_wp2_with fail
   go_ret
   exact ⟨by rw [H.out];rfl,HX6.out⟩
  ·rw [hnb] at HN H
   clear hnb
   go_enter Tryz.func64,Tryz.ntmps64
   go_wp2_with fail
   refine (HN.out _).mono ?_
   rintro e w5 ⟨rfl,hx5⟩
   have HX6:=Lib.hid (HX0.out.trans hx5)
   obtain ⟨q0,q1,q2,q3,q4⟩:=(HB0.out.ext hx5).five
   clear hx5
   go_wp2_with fail
   go_ret
   exact ⟨by rw [H.out];rfl,HX6.out⟩
 ·have e1:(k == 1)=false:=by rw [beq_eq_false_iff_ne];omega
  have e2:(k == 2)=false:=by rw [beq_eq_false_iff_ne];omega
  have H1:Hid (plainB ⟨k,a,b,n,t⟩=(s.toList.isEmpty && plainM ⟨k,a,b,n,t⟩)):=Lib.hid (by rw [hne];unfold plainB plainT;rw [if_neg hk1,if_neg hk2])
  have H2:Hid (plainM ⟨k,a,b,n,t⟩=if k=10 then decide (-64≤n∧n≤64) else n == 0):=Lib.hid rfl
  generalize plainB ⟨k,a,b,n,t⟩=r at *
  generalize plainM ⟨k,a,b,n,t⟩=m at *
  clear hM hne hk1 hk2 HP HN hl
  cases hsb:s.toList.isEmpty
  ·rw [hsb] at H1
   go_enter Tryz.func64,Tryz.ntmps64
   go_wp2_with fail
   go_ret
   exact ⟨by rw [H1.out];rfl,HX0.out⟩
  ·rw [hsb] at H1
   by_cases h10:k=10
   ·subst h10
    have H3:Hid (m=(decide (-64≤n) && decide (n≤64))):=Lib.hid (by rw [H2.out,if_pos rfl,plainM_10])
    by_cases hn: -64≤n
    ·have hd:decide (-64≤n)=true:=decide_eq_true hn
     rw [hd] at H3
     go_enter Tryz.func64,Tryz.ntmps64
     go_wp2_with fail
     go_ret
     exact ⟨by rw [H1.out,H3.out];rfl,HX0.out⟩
    ·have hd:decide (-64≤n)=false:=decide_eq_false hn
     rw [hd] at H3
     go_enter Tryz.func64,Tryz.ntmps64
     go_wp2_with fail
     go_ret
     exact ⟨by rw [H1.out,H3.out];rfl,HX0.out⟩
   ·have e10:(k == 10)=false:=by rw [beq_eq_false_iff_ne];exact h10
    have H3:Hid (m=(n == 0)):=Lib.hid (by rw [H2.out,if_neg h10])
    clear h10
    go_enter Tryz.func64,Tryz.ntmps64
    go_wp2_with fail
    go_ret
    exact ⟨by rw [H1.out,H3.out];rfl,HX0.out⟩
end Big
end Go.Proofs.YtaccjdbbkmhanaaGreatDoor
namespace Go.Proofs.YtaccjdbbkmhanaaGreatDoor
namespace Big
end Big
end Go.Proofs.YtaccjdbbkmhanaaGreatDoor
namespace Go.Proofs.YtaccjdbbkmhanaaGreatDoor
namespace Big
instance:DecidableEq Nd:=fun x y=>decidable_of_iff (x.kind=y.kind∧x.a=y.a∧x.b=y.b∧x.n=y.n∧x.text=y.text) (by
 obtain ⟨a0,a1,a2,a3,a4⟩:=x
 obtain ⟨b0,b1,b2,b3,b4⟩:=y
 simp only [Nd.mk.injEq])
def placeG (x:Nd):List Nd→Nat
 |[]=>0
 |y::l=>if y=x then 0 else placeG x l+1
theorem placeG_cons (x y:Nd) (l:List Nd):placeG x (y::l)=if y=x then 0 else placeG x l+1:=rfl
theorem nodup_inj {l:List Nd} (hn:l.Nodup) {i j:Nat} (hi:i<l.length) (hj:j<l.length) (h:l[i]=l[j]):i=j:=by
 rcases Nat.lt_trichotomy i j with h1|h1|h1
 ·exact absurd h (List.pairwise_iff_getElem.1 hn i j hi hj h1)
 ·exact h1
 ·exact absurd h.symm (List.pairwise_iff_getElem.1 hn j i hj hi h1)
theorem placeG_mem {x:Nd}:∀{l:List Nd},x∈l→placeG x l<l.length
 |y::l,h=>by
  unfold placeG
  split
  ·simp
  ·rename_i hne
   rcases List.mem_cons.1 h with h|h
   ·exact absurd h.symm hne
   ·have:=placeG_mem h
    simp only [List.length_cons]
    omega
theorem placeG_get? {x:Nd}:∀{l:List Nd},x∈l→l[placeG x l]? =some x
 |y::l,h=>by
  by_cases he:y=x
  ·rw [placeG_cons,if_pos he,he]
   rfl
  ·rw [placeG_cons,if_neg he]
   rcases List.mem_cons.1 h with h|h
   ·exact absurd h.symm he
   ·rw [List.getElem?_cons_succ]
    exact placeG_get? h
theorem placeG_get {x:Nd} {l:List Nd} (hm:x∈l):l[placeG x l]'(placeG_mem hm)=x:=by
 have:=placeG_get? hm
 rw [List.getElem?_eq_getElem (placeG_mem hm)] at this
 injection this
theorem placeG_at {l:List Nd} (hn:l.Nodup) {i:Nat} (h:i<l.length):placeG l[i] l=i:=by
 have hm:=placeG_mem (List.getElem_mem h)
 exact nodup_inj hn hm h (placeG_get (List.getElem_mem h))
def putG (ns:List Nd) (x:Nd):Nat × List Nd:=if x∈ns then (placeG x ns,ns) else (ns.length,ns++[x])
theorem putG_lt (ns:List Nd) (x:Nd):(putG ns x).1<(putG ns x).2.length:=by
 unfold putG
 split
 ·exact placeG_mem ‹_›
 ·simp
theorem putG_nodup {ns:List Nd} (h:ns.Nodup) (x:Nd):(putG ns x).2.Nodup:=by
 unfold putG
 split
 ·exact h
 ·rename_i hx
  rw [List.nodup_append]
  refine ⟨h,by simp,fun a ha b hb=> ?_⟩
  rw [List.mem_singleton] at hb
  subst hb
  exact fun e=>hx (e ▸ ha)
theorem putG_pre (ns:List Nd) (x:Nd):ns <+: (putG ns x).2:=by
 unfold putG
 split
 ·exact List.prefix_refl _
 ·exact List.prefix_append _ _
theorem putG_len (ns:List Nd) (x:Nd):(putG ns x).2.length≤ns.length+1:=by
 unfold putG
 split<;>simp
theorem putG_old {ns:List Nd} (hn:ns.Nodup) {i:Nat} {x:Nd} (h:ns[i]? =some x):putG ns x=(i,ns):=by
 obtain ⟨hi,he⟩:=List.getElem?_eq_some_iff.1 h
 unfold putG
 have hm:x∈ns:=he ▸ List.getElem_mem hi
 rw [if_pos hm]
 subst he
 rw [placeG_at hn hi]
def addG:List Nd→Ex→Nat × List Nd
 |ns,.leaf k t=>putG ns ⟨(k:Int),0,0,0,t⟩
 |ns,.un k n x=>putG (addG ns x).2 ⟨(k:Int),((addG ns x).1:Int),0,n,[]⟩
 |ns,.bin k x y=>putG (addG (addG ns x).2 y).2 ⟨(k:Int),((addG ns x).1:Int),((addG (addG ns x).2 y).1:Int),0,[]⟩
def Rep (ns:List Nd):Nat→Ex→Prop
 |i,.leaf k t=>ns[i]? =some ⟨(k:Int),0,0,0,t⟩
 |i,.un k n x=>∃j,Rep ns j x∧ns[i]? =some ⟨(k:Int),(j:Int),0,n,[]⟩
 |i,.bin k x y=>∃j q,Rep ns j x∧Rep ns q y∧ns[i]? =some ⟨(k:Int),(j:Int),(q:Int),0,[]⟩
theorem get_pre {ns ms:List Nd} (h:ns <+: ms) {i:Nat} {x:Nd} (hx:ns[i]? =some x):ms[i]? =some x:=by
 obtain ⟨t,rfl⟩:=h
 obtain ⟨hi,_⟩:=List.getElem?_eq_some_iff.1 hx
 rw [List.getElem?_append_left hi,hx]
theorem Rep.pre {ns ms:List Nd} (h:ns <+: ms):∀{e:Ex} {i:Nat},Rep ns i e→Rep ms i e
 | .leaf _ _,_,hr=>get_pre h hr
 | .un _ _ _,_,⟨j,hr,hx⟩=>⟨j,hr.pre h,get_pre h hx⟩
 | .bin _ _ _,_,⟨j,q,hr,hr2,hx⟩=>⟨j,q,hr.pre h,hr2.pre h,get_pre h hx⟩
theorem addG_pre (e:Ex):∀ns,ns <+: (addG ns e).2:=by
 induction e with
 |leaf k t=>intro ns;exact putG_pre _ _
 |un k n x ih=>intro ns;exact (ih ns).trans (putG_pre _ _)
 |bin k x y ihx ihy=>intro ns;exact ((ihx ns).trans (ihy _)).trans (putG_pre _ _)
theorem addG_len (e:Ex):∀ns,(addG ns e).2.length≤ns.length+e.size:=by
 induction e with
 |leaf k t=>intro ns;exact putG_len _ _
 |un k n x ih=>
  intro ns
  have h1:=ih ns
  have h2:=putG_len (addG ns x).2 ⟨(k:Int),((addG ns x).1:Int),0,n,[]⟩
  simp only [addG,Ex.size]
  omega
 |bin k x y ihx ihy=>
  intro ns
  have h1:=ihx ns
  have h2:=ihy (addG ns x).2
  have h3:=putG_len (addG (addG ns x).2 y).2 ⟨(k:Int),((addG ns x).1:Int),((addG (addG ns x).2 y).1:Int),0,[]⟩
  simp only [addG,Ex.size]
  omega
theorem addG_lt (e:Ex) (ns:List Nd):(addG ns e).1<(addG ns e).2.length:=by
 cases e<;>exact putG_lt _ _
theorem Rep.one {ns:List Nd} (hn:ns.Nodup):∀{e:Ex} {i j:Nat},Rep ns i e→Rep ns j e→i=j:=by
 have key:∀{i j:Nat} {x:Nd},ns[i]? =some x→ns[j]? =some x→i=j:=by
  intro i j x hi hj
  have h1:=putG_old hn hi
  rw [putG_old hn hj] at h1
  injection h1 with h1
  exact h1.symm
 intro e
 induction e with
 |leaf k t=>intro i j hi hj;exact key hi hj
 |un k n x ih=>
  rintro i j ⟨p,hp,hi⟩ ⟨q,hq,hj⟩
  obtain rfl:=ih hp hq
  exact key hi hj
 |bin k x y ihx ihy=>
  rintro i j ⟨p,p',hp,hp',hi⟩ ⟨q,q',hq,hq',hj⟩
  obtain rfl:=ihx hp hq
  obtain rfl:=ihy hp' hq'
  exact key hi hj
theorem Rep.same {ns:List Nd}:∀{e e':Ex} {i:Nat},e.Good→e'.Good→Rep ns i e→Rep ns i e'→e=e':=by
 intro e
 induction e with
 |leaf k t=>
  intro e' i hg hg' h h'
  have h0:ns[i]? =some ⟨(k:Int),0,0,0,t⟩:=h
  cases e' with
  |leaf k' t'=>
   have h1:ns[i]? =some ⟨(k':Int),0,0,0,t'⟩:=h'
   rw [h0] at h1
   simp only [Option.some.injEq,Nd.mk.injEq] at h1
   have:k=k':=by omega
   rw [this,h1.2.2.2.2]
  |un k' n' x'=>
   obtain ⟨j,_,h1⟩:=h'
   rw [h0] at h1
   simp only [Option.some.injEq,Nd.mk.injEq] at h1
   have:=hg'.1
   rcases hg with ⟨h,_⟩|⟨h,_⟩|⟨h,_⟩<;>omega
  |bin k' x' y'=>
   obtain ⟨j,q,_,_,h1⟩:=h'
   rw [h0] at h1
   simp only [Option.some.injEq,Nd.mk.injEq] at h1
   have:=hg'.1
   rcases hg with ⟨h,_⟩|⟨h,_⟩|⟨h,_⟩<;>omega
 |un k n x ih=>
  intro e' i hg hg' h h'
  obtain ⟨j,hr,h0⟩:=h
  cases e' with
  |leaf k' t'=>
   have h1:ns[i]? =some ⟨(k':Int),0,0,0,t'⟩:=h'
   rw [h0] at h1
   simp only [Option.some.injEq,Nd.mk.injEq] at h1
   have:=hg.1
   rcases hg' with ⟨h,_⟩|⟨h,_⟩|⟨h,_⟩<;>omega
  |un k' n' x'=>
   obtain ⟨j',hr',h1⟩:=h'
   rw [h0] at h1
   simp only [Option.some.injEq,Nd.mk.injEq] at h1
   have hk:k=k':=by omega
   have hj:j=j':=by omega
   subst hj
   rw [hk,h1.2.2.2.1,ih hg.2.2.2.2 hg'.2.2.2.2 hr hr']
  |bin k' x' y'=>
   obtain ⟨j',q,_,_,h1⟩:=h'
   rw [h0] at h1
   simp only [Option.some.injEq,Nd.mk.injEq] at h1
   have:=hg.1
   have:=hg'.1
   omega
 |bin k x y ihx ihy=>
  intro e' i hg hg' h h'
  obtain ⟨j,q,hr,hr2,h0⟩:=h
  cases e' with
  |leaf k' t'=>
   have h1:ns[i]? =some ⟨(k':Int),0,0,0,t'⟩:=h'
   rw [h0] at h1
   simp only [Option.some.injEq,Nd.mk.injEq] at h1
   have:=hg.1
   rcases hg' with ⟨h,_⟩|⟨h,_⟩|⟨h,_⟩<;>omega
  |un k' n' x'=>
   obtain ⟨j',_,h1⟩:=h'
   rw [h0] at h1
   simp only [Option.some.injEq,Nd.mk.injEq] at h1
   have:=hg.1
   have:=hg'.1
   omega
  |bin k' x' y'=>
   obtain ⟨j',q',hr',hr2',h1⟩:=h'
   rw [h0] at h1
   simp only [Option.some.injEq,Nd.mk.injEq] at h1
   have hk:k=k':=by omega
   have hj:j=j':=by omega
   have hq:q=q':=by omega
   subst hj
   subst hq
   rw [hk,ihx hg.2.1 hg'.2.1 hr hr',ihy hg.2.2 hg'.2.2 hr2 hr2']
def stepG (s:List Nat × List Nd) (x:Nd):List Nat × List Nd:=
 (s.1++[(putG s.2 ⟨x.kind,if 5≤x.kind then ((s.1.getD x.a.toNat 0:Nat):Int) else x.a,if 6≤x.kind∧x.kind≤9 then ((s.1.getD x.b.toNat 0:Nat):Int) else x.b,x.n,x.text⟩).1],
  (putG s.2 ⟨x.kind,if 5≤x.kind then ((s.1.getD x.a.toNat 0:Nat):Int) else x.a,if 6≤x.kind∧x.kind≤9 then ((s.1.getD x.b.toNat 0:Nat):Int) else x.b,x.n,x.text⟩).2)
def foldG (s:List Nat × List Nd) (l:List Nd):List Nat × List Nd:=l.foldl stepG s
theorem getD_lastG (l:List Nat) (x:Nat) {i:Nat} (h:i=l.length):(l++[x]).getD i 0=x:=by
 subst h
 rw [List.getD_eq_getElem?_getD,List.getElem?_append_right (Nat.le_refl _),Nat.sub_self]
 rfl
theorem getD_before (l m:List Nat) {i:Nat} (h:i<l.length):(l++m).getD i 0=l.getD i 0:=by
 rw [List.getD_eq_getElem?_getD,List.getD_eq_getElem?_getD,List.getElem?_append_left h]
theorem foldG_flat (e:Ex) (hg:e.Good):∀(ids:List Nat) (ns:List Nd),∃more:List Nat,more.length+1=e.size∧foldG (ids,ns) (flat ids.length e)=((ids++more)++[(addG ns e).1],(addG ns e).2):=by
 induction e with
 |leaf k t=>
  intro ids ns
  have hk:k<5:=by rcases hg with ⟨h,_⟩|⟨h,_⟩|⟨h,_⟩<;>omega
  refine ⟨[],rfl,?_⟩
  simp only [foldG,flat,List.foldl_cons,List.foldl_nil,stepG,List.append_nil]
  rw [if_neg (by omega),if_neg (by omega)]
  rfl
 |un k n x ih=>
  intro ids ns
  obtain ⟨more,hm,hf⟩:=ih hg.2.2.2.2 ids ns
  have hx:=x.size_pos
  have hk:=hg.1
  refine ⟨more++[(addG ns x).1],by simp only [List.length_append,List.length_singleton,Ex.size];omega,?_⟩
  rw [flat,foldG,List.foldl_append]
  rw [foldG] at hf
  rw [hf]
  have hl:ids.length+x.size-1=(ids++more).length:=by rw [List.length_append];omega
  have h1:((ids++more)++[(addG ns x).1]).getD (((ids.length+x.size-1:Nat):Int)).toNat 0=(addG ns x).1:=getD_lastG _ _ (by rw [Int.toNat_natCast];exact hl)
  simp only [List.foldl_cons,List.foldl_nil,stepG,h1]
  rw [if_pos (by omega),if_neg (by omega)]
  simp only [addG,List.append_assoc]
 |bin k x y ihx ihy=>
  intro ids ns
  obtain ⟨m1,hm1,hf1⟩:=ihx hg.2.1 ids ns
  obtain ⟨m2,hm2,hf2⟩:=ihy hg.2.2 ((ids++m1)++[(addG ns x).1]) (addG ns x).2
  have hx:=x.size_pos
  have hy:=y.size_pos
  have hk:=hg.1
  have hlen:((ids++m1)++[(addG ns x).1]).length=ids.length+x.size:=by simp only [List.length_append,List.length_singleton];omega
  rw [hlen] at hf2
  refine ⟨m1++[(addG ns x).1]++m2++[(addG (addG ns x).2 y).1],by simp only [List.length_append,List.length_singleton,Ex.size];omega,?_⟩
  rw [flat,foldG,List.foldl_append,List.foldl_append]
  rw [foldG] at hf1 hf2
  rw [hf1,hf2]
  have hl:ids.length+x.size-1=(ids++m1).length:=by rw [List.length_append];omega
  have hl2:ids.length+x.size+y.size-1=(((ids++m1)++[(addG ns x).1])++m2).length:=by rw [List.length_append,hlen];omega
  have h1:(((((ids++m1)++[(addG ns x).1])++m2)++[(addG (addG ns x).2 y).1])).getD (((ids.length+x.size-1:Nat):Int)).toNat 0=(addG ns x).1:=by
   rw [Int.toNat_natCast,getD_before _ _ (by rw [←hl2];omega),getD_before _ _ (by rw [hlen];omega)]
   exact getD_lastG _ _ hl
  have h2:(((((ids++m1)++[(addG ns x).1])++m2)++[(addG (addG ns x).2 y).1])).getD (((ids.length+x.size+y.size-1:Nat):Int)).toNat 0=(addG (addG ns x).2 y).1:=getD_lastG _ _ (by rw [Int.toNat_natCast];exact hl2)
  simp only [List.foldl_cons,List.foldl_nil,stepG,h1,h2]
  rw [if_pos (by omega),if_pos (by omega)]
  simp only [addG,List.append_assoc]
end Big
end Go.Proofs.YtaccjdbbkmhanaaGreatDoor
