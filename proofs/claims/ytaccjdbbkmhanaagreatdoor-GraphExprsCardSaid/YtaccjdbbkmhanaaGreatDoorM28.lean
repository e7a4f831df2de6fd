import Derived.Test.YtaccjdbbkmhanaaGreatDoorM27
import Derived.Test.YtaccjdbbkmhanaaGreatDoorM19
import Derived.Test.YtaccjdbbkmhanaaGreatDoorM23
import Derived.Test.YtaccjdbbkmhanaaGreatDoorM16
namespace Go.Proofs.YtaccjdbbkmhanaaGreatDoor
namespace Big
open Go.RowKit
end Big
end Go.Proofs.YtaccjdbbkmhanaaGreatDoor
namespace Go.Proofs.YtaccjdbbkmhanaaGreatDoor
namespace Big
open Go.RowKit
section
variable {p:Nat→Option Ex × Nat} {ts:List Tok} {a b n:Nat} {x:Ex}
theorem pPower_none (h:pAtom p ts a=(none,b)):pPower p ts a=(none,b):=by unfold pPower;rw [h]
theorem pPower_plain (h:pAtom p ts a=(some x,b)) (h1:isS ts b [94]=false):pPower p ts a=(some x,b):=atom_up h h1
theorem pPower_neg (h:pAtom p ts a=(some x,b)) (h1:isS ts b [94]=true) (h2:isS ts (b+1) [45]=true) (h3:expo ts (b+2)=some n):pPower p ts a=(some (.un 10 (-(n:Int)) x),b+3):=by
 unfold pPower;rw [h];simp only;rw [if_pos h1,if_pos h2,h3]
theorem pPower_negbad (h:pAtom p ts a=(some x,b)) (h1:isS ts b [94]=true) (h2:isS ts (b+1) [45]=true) (h3:expo ts (b+2)=none):pPower p ts a=(none,b+2):=by
 unfold pPower;rw [h];simp only;rw [if_pos h1,if_pos h2,h3]
theorem pPower_pos (h:pAtom p ts a=(some x,b)) (h1:isS ts b [94]=true) (h2:isS ts (b+1) [45]=false) (h3:expo ts (b+1)=some n):pPower p ts a=(some (.un 10 (n:Int) x),b+2):=by
 unfold pPower;rw [h];simp only;rw [if_pos h1,if_neg (by rw [h2];simp),h3]
theorem pPower_posbad (h:pAtom p ts a=(some x,b)) (h1:isS ts b [94]=true) (h2:isS ts (b+1) [45]=false) (h3:expo ts (b+1)=none):pPower p ts a=(none,b+1):=by
 unfold pPower;rw [h];simp only;rw [if_pos h1,if_neg (by rw [h2];simp),h3]
theorem DigPost.some_ {w w':World} {e:Ending} {r:Option Nat} (h:DigPost w r e w') (hr:r=some n):e= .returned (.tuple #[.int .i64 (n:Int),.bool true])∧Ext w w':=by subst hr;exact ⟨h.2,h.1⟩
theorem DigPost.none_ {w w':World} {e:Ending} {r:Option Nat} (h:DigPost w r e w') (hr:r=none):e= .returned (.tuple #[.int .i64 0,.bool false])∧Ext w w':=by subst hr;exact ⟨h.2,h.1⟩
theorem flat_un_snoc (off k:Nat) (z:Int):flat off (.un k z x)=flat off x++[⟨(k:Int),((off+x.size-1:Nat):Int),0,z,[]⟩]:=rfl
end
end Big
end Go.Proofs.YtaccjdbbkmhanaaGreatDoor
namespace Go.Proofs.YtaccjdbbkmhanaaGreatDoor
namespace Big
open Go.RowKit
section
variable {p:Nat→Option Ex × Nat} {ts:List Tok} {a b:Nat} {x:Ex}
theorem M_no (h:isS ts a [45]=false):minusRun ts ts.length a=0:=minusRun_zero _ h
theorem M_yes (h:isS ts a [45]=true):minusRun ts ts.length a=minusRun ts ts.length (a+1)+1:=by
 have hl:=isS_lt h
 obtain ⟨n,hn⟩:∃n,ts.length=n+1:=⟨ts.length-1,by omega⟩
 rw [hn,minusRun,if_pos h,←minusRun_more (n+1) n (a+1) (by omega) (by omega)]
end
end Big
end Go.Proofs.YtaccjdbbkmhanaaGreatDoor
namespace Go.Proofs.YtaccjdbbkmhanaaGreatDoor
namespace Big
open Go.RowKit
theorem poperands_any (w:World) (k:Int):Calls Tryz.prog 80 #[.int .i64 k] w fun e w'=>e= .returned (.int .i64 (operI k))∧w=w':=by
 have key:(k<1∧operI k= -1)∨(1≤k∧k≤4∧operI k=0)∨(k=5∧operI k=1)∨(6≤k∧k≤9∧operI k=2)∨(10≤k∧k≤16∧operI k=1)∨(17≤k∧operI k= -1):=by
  unfold operI
  by_cases h1:k<1
  ·simp [h1]
  by_cases h2:16<k
  ·simp [h1,h2]
   omega
  by_cases h3:k≤4
  ·simp [h1,h2,h3]
   omega
  by_cases h4:6≤k∧k≤9
  ·simp [h1,h2,h3,h4]
  ·simp [h1,h2,h3,h4]
   omega
 rcases key with ⟨h1,h⟩|⟨h1,h2,h⟩|⟨rfl,h⟩|⟨h1,h2,h⟩|⟨h1,h2,h⟩|⟨h1,h⟩
 ·have H:=Lib.hid h
  have d1:decide (k≥1)=false:=decide_eq_false (by omega)
  have d1':¬1≤k:=by omega
  have d2:(k == 5)=false:=by rw [beq_eq_false_iff_ne];omega
  have d3:decide (k≥10)=false:=decide_eq_false (by omega)
  have d3':¬10≤k:=by omega
  have d4:decide (k≥6)=false:=decide_eq_false (by omega)
  have d4':¬6≤k:=by omega
  clear h
  go_enter Tryz.func80,Tryz.ntmps80
  go_wp2_with fail
  go_ret
  exact ⟨by rw [H.out];rfl,rfl⟩
 ·have H:=Lib.hid h
  clear h
  go_enter Tryz.func80,Tryz.ntmps80
  go_wp2_with fail
  go_ret
  exact ⟨by rw [H.out];rfl,rfl⟩
 ·have H:=Lib.hid h
  clear h
  go_enter Tryz.func80,Tryz.ntmps80
  go_wp2_with fail
  go_ret
  exact ⟨by rw [H.out];rfl,rfl⟩
 ·have H:=Lib.hid h
  have d1':1≤k:=by omega
  have d1'':¬k≤4:=by omega
  have d2:(k == 5)=false:=by rw [beq_eq_false_iff_ne];omega
  have d3':¬10≤k:=by omega
  clear h
  go_enter Tryz.func80,Tryz.ntmps80
  go_wp2_with fail
  go_ret
  exact ⟨by rw [H.out];rfl,rfl⟩
 ·have H:=Lib.hid h
  have d1':1≤k:=by omega
  have d1'':¬k≤4:=by omega
  have d2:(k == 5)=false:=by rw [beq_eq_false_iff_ne];omega
  clear h
  go_enter Tryz.func80,Tryz.ntmps80
  go_wp2_with fail
  go_ret
  exact ⟨by rw [H.out];rfl,rfl⟩
 ·have H:=Lib.hid h
  have d1':1≤k:=by omega
  have d1'':¬k≤4:=by omega
  have d2:(k == 5)=false:=by rw [beq_eq_false_iff_ne];omega
  have d3':10≤k:=by omega
  have d3'':¬k≤16:=by omega
  have d4':6≤k:=by omega
  have d4'':¬k≤9:=by omega
  clear h
  go_enter Tryz.func80,Tryz.ntmps80
  go_wp2_with fail
  go_ret
  exact ⟨by rw [H.out];rfl,rfl⟩
set_option maxRecDepth 100000 in
set_option maxHeartbeats 1000000 in
theorem pplain_any (w:World) (x:Nd) (hl:x.text.length≤1073741824) (hm:MaxV w):Calls Tryz.prog 81 #[ndV x] w fun e w'=>e= .returned (.bool (plainB x))∧Ext w w':=by
 obtain ⟨k,a,b,n,t⟩:=x
 simp only [ndV] at hl ⊢
 have HP:=Lib.hid (fun W h=>parse7_any W t h)
 have HM:=Lib.hid hm
 have HW:=Lib.hid (fun W=>word_any W t hl)
 have HRS:=Lib.hid (fun W=>reserved_any W t)
 have hnm:nameB t=(wordB t && !reservedB t):=by rw [reservedB_mem];rfl
 obtain ⟨s,hs⟩:∃s:ByteArray,s=⟨t.toArray⟩:=⟨_,rfl⟩
 have hst:str t= .string s:=by rw [hs];rfl
 have hne:s.toList.isEmpty=(t == []):=by rw [hs];exact bytes_empty t
 rw [hst] at HP HW HRS ⊢
 clear hs hst hm
 have hb0:=Blk.new w 50 #[.int .i64 k,.int .i64 a,.int .i64 b,.int .i64 n,.string s]
 have HX0:=Lib.hid ((Ext.refl w).alloc (.cells #[.int .i64 k,.int .i64 a,.int .i64 b,.int .i64 n,.string s] 50))
 have HB0:=Lib.hid hb0
 obtain ⟨q0,q1,q2,q3,q4⟩:=hb0.five
 clear hb0
 have key:(k=1)∨(k=2)∨(k=10)∨(k≠1∧k≠2∧k≠10):=by omega
 rcases key with rfl|rfl|rfl|⟨hk1,hk2,hk3⟩
 ·have hcb:((code7 t:Int) == 0)=(code7 t == 0):=by rw [Bool.eq_iff_iff];simp
  have H:Hid (plainB ⟨1,a,b,n,t⟩=((code7 t:Int) == 0 && (n == 0))):=Lib.hid (by rw [hcb];unfold plainB plainT plainM;simp)
  clear hne hcb hnm
  generalize plainB ⟨1,a,b,n,t⟩=r at *
  generalize hce:(code7 t:Int)=ce at *
  go_enter Tryz.func81,Tryz.ntmps81
  go_wp2_with fail
  refine (HP.out _ (HM.out.ext HX0.out)).mono ?_
  rintro e w5 ⟨v5,rfl,hr5,hx5⟩
  obtain ⟨b5,n5,A5,c5,n6,A6,c6,rfl⟩:=hr5.shape
  have hx6:=hx5.alloc (.cells #[.bool b5,.slice A5 n5 c5,.slice A6 n6 c6] 117)
  have HX6:=Lib.hid (HX0.out.trans hx6)
  obtain ⟨q0,q1,q2,q3,q4⟩:=(HB0.out.ext hx6).five
  clear hr5 hx5 hx6
  rw [hce]
  clear hce
  cases hz:(ce == 0)
  ·rw [hz] at H
   go_wp2_with fail
   go_ret
   exact ⟨by rw [H.out];rfl,HX6.out⟩
  ·rw [hz] at H
   go_wp2_with fail
   go_ret
   exact ⟨by rw [H.out];rfl,HX6.out⟩
 ·have H:Hid (plainB ⟨2,a,b,n,t⟩=((wordB t && !reservedB t) && (n == 0))):=Lib.hid (by rw [←hnm];unfold plainB plainT plainM;simp)
  generalize plainB ⟨2,a,b,n,t⟩=r at *
  clear hne hnm
  cases hw:wordB t
  ·rw [hw] at HW H
   clear hw
   go_enter Tryz.func81,Tryz.ntmps81
   go_wp2_with fail
   refine (HW.out _).mono ?_
   rintro e w5 ⟨rfl,rfl⟩
   go_wp2_with fail
   go_ret
   exact ⟨by rw [H.out];rfl,HX0.out⟩
  ·rw [hw] at HW H
   clear hw
   cases hv:reservedB t
   all_goals
    rw [hv] at HRS H
    clear hv
    go_enter Tryz.func81,Tryz.ntmps81
    go_wp2_with fail
    refine (HW.out _).mono ?_
    rintro e w5 ⟨rfl,rfl⟩
    go_wp2_with fail
    refine (HRS.out _).mono ?_
    rintro e w6 ⟨rfl,rfl⟩
    go_wp2_with fail
    go_ret
    exact ⟨by rw [H.out];rfl,HX0.out⟩
 ·have H:Hid (plainB ⟨10,a,b,n,t⟩=((decide (-64≤n) && decide (n≤64)) && s.toList.isEmpty)):=Lib.hid (by rw [hne,←plainM_10];unfold plainB plainT plainM;rw [Bool.and_comm];rfl)
  generalize plainB ⟨10,a,b,n,t⟩=r at *
  clear hne hnm HP HW HRS hl
  by_cases hn: -64≤n
  ·have hd:decide (-64≤n)=true:=decide_eq_true hn
   rw [hd] at H
   by_cases hn2:n≤64
   ·have hd2:decide (n≤64)=true:=decide_eq_true hn2
    rw [hd2] at H
    go_enter Tryz.func81,Tryz.ntmps81
    go_wp2_with fail
    go_ret
    exact ⟨by rw [H.out];rfl,HX0.out⟩
   ·have hd2:decide (n≤64)=false:=decide_eq_false hn2
    rw [hd2] at H
    go_enter Tryz.func81,Tryz.ntmps81
    go_wp2_with fail
    go_ret
    exact ⟨by rw [H.out];rfl,HX0.out⟩
  ·have hd:decide (-64≤n)=false:=decide_eq_false hn
   rw [hd] at H
   go_enter Tryz.func81,Tryz.ntmps81
   go_wp2_with fail
   go_ret
   exact ⟨by rw [H.out];rfl,HX0.out⟩
 ·have e1:(k == 1)=false:=by rw [beq_eq_false_iff_ne];omega
  have e2:(k == 2)=false:=by rw [beq_eq_false_iff_ne];omega
  have e3:(k == 10)=false:=by rw [beq_eq_false_iff_ne];omega
  have H:Hid (plainB ⟨k,a,b,n,t⟩=((n == 0) && s.toList.isEmpty)):=Lib.hid (by rw [hne,Bool.and_comm];unfold plainB plainT plainM;rw [if_neg hk1,if_neg hk2,if_neg hk3])
  generalize plainB ⟨k,a,b,n,t⟩=r at *
  clear hne hnm HP HW HRS hl hk1 hk2 hk3
  cases hz:(n == 0)
  ·rw [hz] at H
   go_enter Tryz.func81,Tryz.ntmps81
   go_wp2_with fail
   go_ret
   exact ⟨by rw [H.out];rfl,HX0.out⟩
  ·rw [hz] at H
   go_enter Tryz.func81,Tryz.ntmps81
   go_wp2_with fail
   go_ret
   exact ⟨by rw [H.out];rfl,HX0.out⟩
end Big
end Go.Proofs.YtaccjdbbkmhanaaGreatDoor
