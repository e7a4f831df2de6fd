import Derived.Test.YtaccjdbbkmhanaaGreatDoorM8
import Derived.Test.YtaccjdbbkmhanaaGreatDoorM6
import Derived.Test.YtaccjdbbkmhanaaGreatDoorM15
import Derived.Test.YtaccjdbbkmhanaaGreatDoorM9
namespace Go.Proofs.YtaccjdbbkmhanaaGreatDoor
namespace Big
open Go.RowKit
theorem byteAt_drop (l:List UInt8) (a i:Nat):byteAt (l.drop a) i=byteAt l (a+i):=by
 unfold byteAt
 rw [List.getD_eq_getElem?_getD,List.getD_eq_getElem?_getD,List.getElem?_drop]
end Big
end Go.Proofs.YtaccjdbbkmhanaaGreatDoor
namespace Go.Proofs.YtaccjdbbkmhanaaGreatDoor
namespace Big
open Go.RowKit
theorem wordB_eq (l:List UInt8):wordB l=(!(l == []) && decide (l.length≤24) && letN (byteAt l 0) && l.all (fun c=>wordN c.toNat)):=rfl
theorem all_word_false {l:List UInt8} {i:Nat} (h:i<l.length) (hf:wordN (byteAt l i)=false):l.all (fun c=>wordN c.toNat)=false:=by
 rw [List.all_eq_false]
 exact ⟨l[i],List.getElem_mem h,by rw [←byteAt_eq l i h,hf];simp⟩
theorem all_word_true {l:List UInt8} (h:∀i,i<l.length→wordN (byteAt l i)=true):l.all (fun c=>wordN c.toNat)=true:=by
 rw [List.all_eq_true]
 intro c hc
 obtain ⟨i,hi,rfl⟩:=List.getElem_of_mem hc
 rw [←byteAt_eq l i hi]
 exact h i hi
set_option maxRecDepth 100000 in
theorem word_any (w:World) (l:List UInt8) (hl:l.length≤1073741824):Calls Tryz.prog 78 #[str l] w fun e w'=>e= .returned (.bool (wordB l))∧w=w':=by
 have H:=Lib.hid (wordB_eq l)
 rcases Nat.eq_zero_or_pos l.length with h0|h0
 ·obtain rfl:l=[]:=List.eq_nil_of_length_eq_zero h0
  have HR:Hid (wordB []=false):=Lib.hid rfl
  have he:(([]:List UInt8) == [])=true:=rfl
  clear h0 H
  go_enter Tryz.func78,Tryz.ntmps78
  go_wp2_with fail
  go_ret
  rw [HR.out]
  exact ⟨rfl,rfl⟩
 ·have he:(l == [])=false:=by cases l<;>simp_all
  have h0i:(0:Int)<(l.length:Int):=by omega
  rcases Nat.lt_or_ge 24 l.length with h24|h24
  ·have HR:Hid (wordB l=false):=Lib.hid (by rw [H.out,decide_eq_false (by omega)];simp)
   have hd:(24:Int)<(l.length:Int):=by omega
   clear H h0 h24
   go_enter Tryz.func78,Tryz.ntmps78
   go_wp2_with fail
   go_ret
   rw [HR.out]
   exact ⟨rfl,rfl⟩
  ·have hd:¬(24:Int)<(l.length:Int):=by omega
   have hd2:decide ((24:Int)<(l.length:Int))=false:=by simp;omega
   have hbl:=byteAt_lt l 0
   have HLT:=Lib.hid (fun W=>isLetter_any W (byteAt l 0) hbl)
   cases hlet:letN (byteAt l 0)
   ·have HR:Hid (wordB l=false):=Lib.hid (by rw [H.out,hlet];simp)
    rw [hlet] at HLT
    clear H h0 h24 hlet
    go_enter Tryz.func78,Tryz.ntmps78
    go_wp2_with fail
    refine (HLT.out _).mono ?_
    rintro e w1 ⟨rfl,rfl⟩
    go_wp2_with fail
    go_ret
    rw [HR.out]
    exact ⟨rfl,rfl⟩
   ·have HR:Hid (wordB l=l.all (fun c=>wordN c.toNat)):=Lib.hid (by rw [H.out,hlet,he,decide_eq_true h24];simp)
    rw [hlet] at HLT
    clear H hlet
    go_enter Tryz.func78,Tryz.ntmps78
    go_wp2_with fail
    refine (HLT.out _).mono ?_
    rintro e w1 ⟨rfl,rfl⟩
    go_wp2_with fail
    go_loop [19] (fun s=>∃i:Nat,i≤l.length∧s= .int .i64 (i:Int)∧Hid (∀j,j<i→wordN (byteAt l j)=true)) (fun s=>l.length-(intOf s).toNat)
    case atStart=>exact ⟨0,Nat.zero_le _,rfl,Lib.hid (fun j hj=>by omega)⟩
    case round=>
     obtain ⟨i,hi,rfl,HA⟩:=hrel
     by_cases hlt:i<l.length
     ·have hbi:=byteAt_lt l i
      have HC:=Lib.hid (fun W=>inWord_any W (byteAt l i) hbi)
      cases hw:wordN (byteAt l i)
      ·have HF:Hid (wordB l=false):=Lib.hid (by rw [HR.out];exact all_word_false hlt hw)
       rw [hw] at HC
       clear hw
       go_wp2_with fail
       refine (HC.out _).mono ?_
       rintro e w1 ⟨rfl,rfl⟩
       go_wp2_with fail
       go_ret
       rw [HF.out]
       exact ⟨rfl,rfl⟩
      ·have HN:Hid (∀j,j<i+1→wordN (byteAt l j)=true):=Lib.hid (fun j hj=>by
        rcases Nat.lt_or_ge j i with h1|h1
        ·exact HA.out j h1
        ·obtain rfl:j=i:=by omega
         exact hw)
       rw [hw] at HC
       clear hw
       go_wp2_with fail
       refine (HC.out _).mono ?_
       rintro e w1 ⟨rfl,rfl⟩
       go_wp2_with fail
       go_round
       case rel=>exact ⟨i+1,by omega,by go_num,HN⟩
       case measure=>simp [intOf];omega
     ·obtain rfl:i=l.length:=by omega
      have HF:Hid (wordB l=true):=Lib.hid (by rw [HR.out];exact all_word_true HA.out)
      go_wp2_with fail
      go_ret
      rw [HF.out]
      exact ⟨rfl,rfl⟩
end Big
end Go.Proofs.YtaccjdbbkmhanaaGreatDoor
namespace Go.Proofs.YtaccjdbbkmhanaaGreatDoor
namespace Big
open Go.RowKit
def words8:List (List UInt8):=[[112,105],[101],[115,113,114,116],[101,120,112],[108,110],[115,105,110],[99,111,115],[97,116,97,110]]
def funcK (l:List UInt8):Nat:=if l=[115,113,114,116] then 11 else if l=[101,120,112] then 12 else if l=[108,110] then 13 else if l=[115,105,110] then 14 else if l=[99,111,115] then 15 else if l=[97,116,97,110] then 16 else 0
def reservedB (l:List UInt8):Bool:=l == [112,105] || l == [101] || funcK l != 0
theorem function_any (w:World) (l:List UInt8):Calls Tryz.prog 103 #[str l] w fun e w'=>e= .returned (.int .i64 (funcK l:Int))∧w=w':=by
 have H:Hid (funcK l=if l=[115,113,114,116] then 11 else if l=[101,120,112] then 12 else if l=[108,110] then 13 else if l=[115,105,110] then 14 else if l=[99,111,115] then 15 else if l=[97,116,97,110] then 16 else 0):=Lib.hid rfl
 by_cases h0:l=[115,113,114,116]
 ·have HR:Hid (funcK l=11):=Lib.hid (by rw [H.out,if_pos h0])
  have b0:(l == [115,113,114,116])=true:=by rw [beq_iff_eq];exact h0
  clear H h0
  go_enter Tryz.func103,Tryz.ntmps103
  go_wp2_with fail
  go_ret
  rw [HR.out]
  exact ⟨rfl,rfl⟩
 by_cases h1:l=[101,120,112]
 ·have HR:Hid (funcK l=12):=Lib.hid (by rw [H.out,if_neg h0,if_pos h1])
  have b0:(l == [115,113,114,116])=false:=by rw [beq_eq_false_iff_ne];exact h0
  have b1:(l == [101,120,112])=true:=by rw [beq_iff_eq];exact h1
  clear H h0 h1
  go_enter Tryz.func103,Tryz.ntmps103
  go_wp2_with fail
  go_ret
  rw [HR.out]
  exact ⟨rfl,rfl⟩
 by_cases h2:l=[108,110]
 ·have HR:Hid (funcK l=13):=Lib.hid (by rw [H.out,if_neg h0,if_neg h1,if_pos h2])
  have b0:(l == [115,113,114,116])=false:=by rw [beq_eq_false_iff_ne];exact h0
  have b1:(l == [101,120,112])=false:=by rw [beq_eq_false_iff_ne];exact h1
  have b2:(l == [108,110])=true:=by rw [beq_iff_eq];exact h2
  clear H h0 h1 h2
  go_enter Tryz.func103,Tryz.ntmps103
  go_wp2_with fail
  go_ret
  rw [HR.out]
  exact ⟨rfl,rfl⟩
 by_cases h3:l=[115,105,110]
 ·have HR:Hid (funcK l=14):=Lib.hid (by rw [H.out,if_neg h0,if_neg h1,if_neg h2,if_pos h3])
  have b0:(l == [115,113,114,116])=false:=by rw [beq_eq_false_iff_ne];exact h0
  have b1:(l == [101,120,112])=false:=by rw [beq_eq_false_iff_ne];exact h1
  have b2:(l == [108,110])=false:=by rw [beq_eq_false_iff_ne];exact h2
  have b3:(l == [115,105,110])=true:=by rw [beq_iff_eq];exact h3
  clear H h0 h1 h2 h3
  go_enter Tryz.func103,Tryz.ntmps103
  go_wp2_with fail
  go_ret
  rw [HR.out]
  exact ⟨rfl,rfl⟩
 by_cases h4:l=[99,111,115]
 ·have HR:Hid (funcK l=15):=Lib.hid (by rw [H.out,if_neg h0,if_neg h1,if_neg h2,if_neg h3,if_pos h4])
  have b0:(l == [115,113,114,116])=false:=by rw [beq_eq_false_iff_ne];exact h0
  have b1:(l == [101,120,112])=false:=by rw [beq_eq_false_iff_ne];exact h1
  have b2:(l == [108,110])=false:=by rw [beq_eq_false_iff_ne];exact h2
  have b3:(l == [115,105,110])=false:=by rw [beq_eq_false_iff_ne];exact h3
  have b4:(l == [99,111,115])=true:=by rw [beq_iff_eq];exact h4
  clear H h0 h1 h2 h3 h4
  go_enter Tryz.func103,Tryz.ntmps103
  go_wp2_with fail
  go_ret
  rw [HR.out]
  exact ⟨rfl,rfl⟩
 by_cases h5:l=[97,116,97,110]
 ·have HR:Hid (funcK l=16):=Lib.hid (by rw [H.out,if_neg h0,if_neg h1,if_neg h2,if_neg h3,if_neg h4,if_pos h5])
  have b0:(l == [115,113,114,116])=false:=by rw [beq_eq_false_iff_ne];exact h0
  have b1:(l == [101,120,112])=false:=by rw [beq_eq_false_iff_ne];exact h1
  have b2:(l == [108,110])=false:=by rw [beq_eq_false_iff_ne];exact h2
  have b3:(l == [115,105,110])=false:=by rw [beq_eq_false_iff_ne];exact h3
  have b4:(l == [99,111,115])=false:=by rw [beq_eq_false_iff_ne];exact h4
  have b5:(l == [97,116,97,110])=true:=by rw [beq_iff_eq];exact h5
  clear H h0 h1 h2 h3 h4 h5
  go_enter Tryz.func103,Tryz.ntmps103
  go_wp2_with fail
  go_ret
  rw [HR.out]
  exact ⟨rfl,rfl⟩
 have HR:Hid (funcK l=0):=Lib.hid (by rw [H.out,if_neg h0,if_neg h1,if_neg h2,if_neg h3,if_neg h4,if_neg h5])
 have b0:(l == [115,113,114,116])=false:=by rw [beq_eq_false_iff_ne];exact h0
 have b1:(l == [101,120,112])=false:=by rw [beq_eq_false_iff_ne];exact h1
 have b2:(l == [108,110])=false:=by rw [beq_eq_false_iff_ne];exact h2
 have b3:(l == [115,105,110])=false:=by rw [beq_eq_false_iff_ne];exact h3
 have b4:(l == [99,111,115])=false:=by rw [beq_eq_false_iff_ne];exact h4
 have b5:(l == [97,116,97,110])=false:=by rw [beq_eq_false_iff_ne];exact h5
 clear H h0 h1 h2 h3 h4 h5
 go_enter Tryz.func103,Tryz.ntmps103
 go_wp2_with fail
 go_ret
 rw [HR.out]
 exact ⟨rfl,rfl⟩
theorem reserved_any (w:World) (l:List UInt8):Calls Tryz.prog 79 #[str l] w fun e w'=>e= .returned (.bool (reservedB l))∧w=w':=by
 have H:Hid (reservedB l=(l == [112,105] || l == [101] || funcK l != 0)):=Lib.hid rfl
 have HF:=Lib.hid (fun W=>function_any W l)
 cases b0:(l == [112,105])
 ·cases b1:(l == [101])
  ·have hk:((funcK l:Int) != 0)=(funcK l != 0):=by rw [Bool.eq_iff_iff];simp
   cases b2:(funcK l != 0)
   all_goals
    rw [b2] at hk
    rw [b0,b1,b2] at H
    clear b2
    go_enter Tryz.func79,Tryz.ntmps79
    go_wp2_with fail
    refine (HF.out _).mono ?_
    rintro e w1 ⟨rfl,rfl⟩
    go_wp2_with fail
    go_ret
    rw [H.out]
    exact ⟨rfl,rfl⟩
  ·rw [b0,b1] at H
   go_enter Tryz.func79,Tryz.ntmps79
   go_wp2_with fail
   go_ret
   rw [H.out]
   exact ⟨rfl,rfl⟩
 ·rw [b0] at H
  go_enter Tryz.func79,Tryz.ntmps79
  go_wp2_with fail
  go_ret
  rw [H.out]
  exact ⟨rfl,rfl⟩
theorem words_any (w:World):Calls Tryz.prog 136 #[] w fun e w'=>∃v,e= .returned v∧OwnS w.heap.size w' v words8∧Ext w w':=by
 go_enter Tryz.func136,Tryz.ntmps136
 go_wp2_with fail
 go_ret
 exact ⟨_,rfl,OwnS.block (ls:=words8) (Blk.new w 9 _) (Nat.le_refl _) (by decide),(Ext.refl w).alloc _⟩
theorem reservedB_mem (l:List UInt8):reservedB l=words8.contains l:=by
 have h:reservedB l=(l == [112,105] || l == [101] || l == [115,113,114,116] || l == [101,120,112] || l == [108,110] || l == [115,105,110] || l == [99,111,115] || l == [97,116,97,110]):=by
  unfold reservedB
  by_cases h0:l=[115,113,114,116]
  ·subst h0;rfl
  by_cases h1:l=[101,120,112]
  ·subst h1;rfl
  by_cases h2:l=[108,110]
  ·subst h2;rfl
  by_cases h3:l=[115,105,110]
  ·subst h3;rfl
  by_cases h4:l=[99,111,115]
  ·subst h4;rfl
  by_cases h5:l=[97,116,97,110]
  ·subst h5;rfl
  unfold funcK
  rw [if_neg h0,if_neg h1,if_neg h2,if_neg h3,if_neg h4,if_neg h5]
  rw [beq_false_of_ne h0,beq_false_of_ne h1,beq_false_of_ne h2,beq_false_of_ne h3,beq_false_of_ne h4,beq_false_of_ne h5]
  simp only [Bool.or_false]
  simp
 rw [h,Bool.eq_iff_iff]
 unfold words8
 simp [or_assoc]
theorem funcK_at (l:List UInt8) (j:Nat) (hj:j<words8.length) (h1:1<j) (h:l=words8[j]):funcK l=11+j-2:=by
 subst h
 have:j=2∨j=3∨j=4∨j=5∨j=6∨j=7:=by
  have:words8.length=8:=rfl
  omega
 rcases this with rfl|rfl|rfl|rfl|rfl|rfl<;>rfl
theorem funcK_none (l:List UInt8) (h:∀j (hj:j<words8.length),1<j→l≠words8[j]):funcK l=0:=by
 have h2:l≠[115,113,114,116]:=h 2 (by decide) (by decide)
 have h3:l≠[101,120,112]:=h 3 (by decide) (by decide)
 have h4:l≠[108,110]:=h 4 (by decide) (by decide)
 have h5:l≠[115,105,110]:=h 5 (by decide) (by decide)
 have h6:l≠[99,111,115]:=h 6 (by decide) (by decide)
 have h7:l≠[97,116,97,110]:=h 7 (by decide) (by decide)
 unfold funcK
 rw [if_neg h2,if_neg h3,if_neg h4,if_neg h5,if_neg h6,if_neg h7]
theorem rreserved_any (w:World) (l:List UInt8):Calls Tryz.prog 108 #[str l] w fun e w'=>e= .returned (.bool (reservedB l))∧Ext w w':=by
 have HW:=Lib.hid (fun W=>words_any W)
 go_enter Tryz.func108,Tryz.ntmps108
 go_wp2_with fail
 refine (HW.out _).mono ?_
 rintro e w1 ⟨v1,rfl,ho,hx⟩
 have HX:=Lib.hid hx
 obtain ⟨A,c,rfl,hc,hm,hcell⟩:=ho.arr.open
 obtain ⟨b,o,rfl,hb,hcell⟩:=hcell (by decide)
 have HC:=Lib.hid hcell
 have hl8:words8.length=8:=rfl
 have HL8:=Lib.hid hl8
 rw [hl8] at hc ⊢
 clear hl8 ho hx hcell
 unfold maxLen at hm
 go_wp2_with fail
 go_loop [7] (fun s=>∃i:Nat,i≤8∧s= .int .i64 (i:Int)∧Hid (∀j (hj:j<words8.length),j<i→l≠words8[j])) (fun s=>8-(intOf s).toNat)
 case atStart=>exact ⟨0,Nat.zero_le _,rfl,Lib.hid (fun j hj h=>by omega)⟩
 case round=>
  obtain ⟨i,hi,rfl,HN⟩:=hrel
  by_cases hlt:i<8
  ·have hi8:i<words8.length:=by rw [HL8.out];exact hlt
   have hx:=HC.out i hi8
   by_cases he:l=words8[i]
   ·have HR:Hid (reservedB l=true):=Lib.hid (by rw [reservedB_mem,List.contains_iff_mem,he];exact List.getElem_mem hi8)
    generalize words8[i]=m at *
    have hbe:(l == m)=true:=by rw [beq_iff_eq];exact he
    clear he
    go_wp2_with fail
    go_ret
    rw [HR.out]
    exact ⟨rfl,HX.out⟩
   ·have HN2:Hid (∀j (hj:j<words8.length),j<i+1→l≠words8[j]):=Lib.hid (fun j hj h=>by
     rcases Nat.lt_or_ge j i with h1|h1
     ·exact HN.out j hj h1
     ·obtain rfl:j=i:=by omega
      exact he)
    generalize words8[i]=m at *
    have hbe:(l == m)=false:=by rw [beq_eq_false_iff_ne];exact he
    clear he
    go_wp2_with fail
    go_round
    case rel=>exact ⟨i+1,by omega,by go_num,HN2⟩
    case measure=>simp [intOf];omega
  ·obtain rfl:i=8:=by omega
   have HR:Hid (reservedB l=false):=Lib.hid (by
    rw [reservedB_mem,Bool.eq_false_iff]
    intro hmem
    rw [List.contains_iff_mem] at hmem
    obtain ⟨j,hj,e⟩:=List.getElem_of_mem hmem
    exact HN.out j hj (by have:=HL8.out;omega) e.symm)
   go_wp2_with fail
   go_ret
   rw [HR.out]
   exact ⟨rfl,HX.out⟩
theorem rfunction_any (w:World) (l:List UInt8):Calls Tryz.prog 157 #[str l] w fun e w'=>e= .returned (.int .i64 (funcK l:Int))∧Ext w w':=by
 have HW:=Lib.hid (fun W=>words_any W)
 go_enter Tryz.func157,Tryz.ntmps157
 go_wp2_with fail
 refine (HW.out _).mono ?_
 rintro e w1 ⟨v1,rfl,ho,hx⟩
 have HX:=Lib.hid hx
 obtain ⟨A,c,rfl,hc,hm,hcell⟩:=ho.arr.open
 obtain ⟨b,o,rfl,hb,hcell⟩:=hcell (by decide)
 have HC:=Lib.hid hcell
 have hl8:words8.length=8:=rfl
 have HL8:=Lib.hid hl8
 rw [hl8] at hc ⊢
 clear hl8 ho hx hcell
 unfold maxLen at hm
 go_wp2_with fail
 go_loop [7] (fun s=>∃i:Nat,i≤8∧s= .int .i64 (i:Int)∧Hid (∀j (hj:j<words8.length),1<j→j<i→l≠words8[j])) (fun s=>8-(intOf s).toNat)
 case atStart=>exact ⟨0,Nat.zero_le _,rfl,Lib.hid (fun j hj _ h=>by omega)⟩
 case round=>
  obtain ⟨i,hi,rfl,HN⟩:=hrel
  by_cases hlt:i<8
  ·have hi8:i<words8.length:=by rw [HL8.out];exact hlt
   have hx:=HC.out i hi8
   have HFA:=Lib.hid (funcK_at l i hi8)
   have HN2:Hid ((1<i→l≠words8[i])→∀j (hj:j<words8.length),1<j→j<i+1→l≠words8[j]):=Lib.hid (fun he j hj h0 h=>by
    rcases Nat.lt_or_ge j i with h1|h1
    ·exact HN.out j hj h0 h1
    ·obtain rfl:j=i:=by omega
     exact he h0)
   generalize words8[i]=m at *
   by_cases h1:1<i
   ·have h1':(1:Int)<(i:Int):=by omega
    by_cases he:l=m
    ·have HR:=Lib.hid (HFA.out h1 he)
     have hbe:(l == m)=true:=by rw [beq_iff_eq];exact he
     clear he
     go_wp2_with fail
     go_ret
     exact ⟨congrArg (fun z=>Ending.returned (.int .i64 z)) (by rw [HR.out];omega),HX.out⟩
    ·have HN3:=Lib.hid (HN2.out (fun _=>he))
     have hbe:(l == m)=false:=by rw [beq_eq_false_iff_ne];exact he
     clear he
     go_wp2_with fail
     go_round
     case rel=>exact ⟨i+1,by omega,by go_num,HN3⟩
     case measure=>simp [intOf];omega
   ·have HN3:=Lib.hid (HN2.out (fun h=>absurd h h1))
    have h1':¬(1:Int)<(i:Int):=by omega
    go_wp2_with fail
    go_round
    case rel=>exact ⟨i+1,by omega,by go_num,HN3⟩
    case measure=>simp [intOf];omega
  ·obtain rfl:i=8:=by omega
   have HR:Hid (funcK l=0):=Lib.hid (funcK_none l (fun j hj h0=>HN.out j hj h0 (by have:=HL8.out;omega)))
   go_wp2_with fail
   go_ret
   rw [HR.out]
   exact ⟨rfl,HX.out⟩
end Big
end Go.Proofs.YtaccjdbbkmhanaaGreatDoor
namespace Go.Proofs.YtaccjdbbkmhanaaGreatDoor
namespace Big
open Go.RowKit
def refWord (l:List UInt8):Nat:=if letN (byteAt l 0) then runLen wordN l else 0
def goesW (l:List UInt8) (i:Nat):Bool:=letN (byteAt l i) || (decide (0<i) && (digN (byteAt l i) || byteAt l i == 95))
theorem runLen_pos {p:Nat→Bool} {l:List UInt8} (h:0<l.length) (hp:p (byteAt l 0)=true):0<runLen p l:=by
 cases l with
 |nil=>simp at h
 |cons c t=>
  have hc:p c.toNat=true:=hp
  rw [runLen,if_pos hc]
  omega
theorem runLen_at {p:Nat→Bool} {l:List UInt8} {i:Nat} (h:i<runLen p l):p (byteAt l i)=true:=by
 obtain ⟨h1,h2⟩:=runLen_in p l i h
 rw [byteAt_eq l i h1]
 exact h2
theorem runLen_not {p:Nat→Bool} {l:List UInt8} (h:runLen p l<l.length):p (byteAt l (runLen p l))=false:=by
 rw [byteAt_eq l _ h]
 exact runLen_end p l h
theorem refWord_le (l:List UInt8):refWord l≤l.length:=by
 unfold refWord
 split
 ·exact runLen_le _ _
 ·exact Nat.zero_le _
theorem refWord_go {l:List UInt8} {i:Nat} (hi:i≤refWord l) (hl:i<l.length):(goesW l i=true∧i<refWord l)∨(goesW l i=false∧i=refWord l):=by
 have hw:wordN (byteAt l i)=(letN (byteAt l i) || digN (byteAt l i) || byteAt l i == 95):=rfl
 unfold refWord at hi ⊢
 cases h0:letN (byteAt l 0)
 ·rw [h0] at hi
  simp only [Bool.false_eq_true,if_false] at hi ⊢
  obtain rfl:i=0:=by omega
  exact .inr ⟨by unfold goesW;rw [h0];rfl,rfl⟩
 ·rw [h0] at hi
  simp only [if_true] at hi ⊢
  rcases Nat.eq_zero_or_pos i with hz|hz
  ·subst hz
   exact .inl ⟨by unfold goesW;rw [h0];rfl,runLen_pos hl (by unfold wordN;rw [h0];rfl)⟩
  ·have hg:goesW l i=wordN (byteAt l i):=by unfold goesW;rw [hw,decide_eq_true hz,Bool.true_and,Bool.or_assoc]
   rcases Nat.lt_or_ge i (runLen wordN l) with h1|h1
   ·exact .inl ⟨by rw [hg];exact runLen_at h1,h1⟩
   ·have:i=runLen wordN l:=by omega
    subst this
    exact .inr ⟨by rw [hg];exact runLen_not hl,rfl⟩
theorem num_go {l:List UInt8} {i:Nat} (hi:i≤runLen numN l) (hl:i<l.length):(numN (byteAt l i)=true∧i<runLen numN l)∨(numN (byteAt l i)=false∧i=runLen numN l):=by
 rcases Nat.lt_or_ge i (runLen numN l) with h1|h1
 ·exact .inl ⟨runLen_at h1,h1⟩
 ·have:i=runLen numN l:=by omega
  subst this
  exact .inr ⟨runLen_not hl,rfl⟩
theorem all_run (p:Nat→Bool) (l:List UInt8):l.all (fun c=>p c.toNat)=decide (runLen p l=l.length):=by
 induction l with
 |nil=>rfl
 |cons c t ih=>
  rw [List.all_cons,ih,runLen]
  cases hc:p c.toNat
  ·simp
  ·have:(runLen p t+1=(c::t).length)↔(runLen p t=t.length):=by simp
   simp
theorem wordB_ref (l:List UInt8):wordB l=(!(l == []) && (decide (l.length≤24) && decide (refWord l=l.length))):=by
 rcases Nat.eq_zero_or_pos l.length with h0|h0
 ·obtain rfl:l=[]:=List.eq_nil_of_length_eq_zero h0
  rfl
 ·rw [wordB_eq,all_run]
  unfold refWord
  cases h1:letN (byteAt l 0)
  ·have:¬(0=l.length):=by omega
   simp [this]
  ·simp [Bool.and_assoc]
set_option maxRecDepth 100000 in
theorem rword_any (w:World) (l:List UInt8) (hl:l.length≤1073741824):Calls Tryz.prog 66 #[str l] w fun e w'=>e= .returned (.int .i64 (refWord l:Int))∧w=w':=by
 have hle:=refWord_le l
 go_enter Tryz.func66,Tryz.ntmps66
 go_wp2_with fail
 go_loop [3] (fun s=>∃i:Nat,i≤refWord l∧s= .int .i64 (i:Int)) (fun s=>l.length-(intOf s).toNat)
 case atStart=>exact ⟨0,Nat.zero_le _,rfl⟩
 case round=>
  obtain ⟨i,hi,rfl⟩:=hrel
  by_cases hlt:i<l.length
  ·have HGO:=Lib.hid (refWord_go hi hlt)
   have hbl:=byteAt_lt l i
   have HLT:=Lib.hid (fun W=>rletter_any W (byteAt l i) hbl)
   have HDG:=Lib.hid (fun W=>rdigit_any W (byteAt l i) hbl)
   have h95e:(byteAt l i == 95)=((byteAt l i:Int) == 95):=by rw [Bool.eq_iff_iff];simp;omega
   have H95:=Lib.hid h95e
   clear h95e
   cases hlet:letN (byteAt l i)
   ·rcases Nat.eq_zero_or_pos i with hz|hz
    ·have HG:Hid (goesW l i=false):=Lib.hid (by unfold goesW;rw [hlet,hz];rfl)
     have hzi:¬(0:Int)<(i:Int):=by omega
     have hzd:decide ((0:Int)<(i:Int))=false:=by simp;omega
     rw [hlet] at HLT
     clear hlet hz
     go_wp2_with fail
     refine (HLT.out _).mono ?_
     rintro e w1 ⟨rfl,rfl⟩
     have HN:Hid (i=refWord l):=Lib.hid (by
      rcases HGO.out with ⟨h,_⟩|⟨_,h⟩
      ·rw [HG.out] at h;cases h
      ·exact h)
     go_wp2_with fail
     go_ret
     exact ⟨by rw [←HN.out];rfl,rfl⟩
    ·have hzi:(0:Int)<(i:Int):=by omega
     have hzd:decide ((0:Int)<(i:Int))=true:=by rw [decide_eq_true_iff];omega
     cases hdig:digN (byteAt l i)
     ·cases h95:((byteAt l i:Int) == 95)
      ·have HG:Hid (goesW l i=false):=Lib.hid (by unfold goesW;rw [hlet,hdig,H95.out,h95];simp)
       rw [hlet] at HLT
       rw [hdig] at HDG
       clear hlet hz hdig
       go_wp2_with fail
       refine (HLT.out _).mono ?_
       rintro e w1 ⟨rfl,rfl⟩
       go_wp2_with fail
       refine (HDG.out _).mono ?_
       rintro e w1 ⟨rfl,rfl⟩
       have HN:Hid (i=refWord l):=Lib.hid (by
        rcases HGO.out with ⟨h,_⟩|⟨_,h⟩
        ·rw [HG.out] at h;cases h
        ·exact h)
       go_wp2_with fail
       go_ret
       exact ⟨by rw [←HN.out];rfl,rfl⟩
      ·have HG:Hid (goesW l i=true):=Lib.hid (by unfold goesW;rw [hlet,hdig,H95.out,h95];simp;omega)
       rw [hlet] at HLT
       rw [hdig] at HDG
       clear hlet hz hdig
       go_wp2_with fail
       refine (HLT.out _).mono ?_
       rintro e w1 ⟨rfl,rfl⟩
       go_wp2_with fail
       refine (HDG.out _).mono ?_
       rintro e w1 ⟨rfl,rfl⟩
       have HN:Hid (i+1≤refWord l):=Lib.hid (by
        rcases HGO.out with ⟨_,h⟩|⟨h,_⟩
        ·exact h
        ·rw [HG.out] at h;cases h)
       go_wp2_with fail
       go_round
       case rel=>exact ⟨i+1,HN.out,by go_num⟩
       case measure=>simp [intOf];omega
     ·have HG:Hid (goesW l i=true):=Lib.hid (by unfold goesW;rw [hlet,hdig];simp;omega)
      rw [hlet] at HLT
      rw [hdig] at HDG
      clear hlet hz hdig
      go_wp2_with fail
      refine (HLT.out _).mono ?_
      rintro e w1 ⟨rfl,rfl⟩
      go_wp2_with fail
      refine (HDG.out _).mono ?_
      rintro e w1 ⟨rfl,rfl⟩
      have HN:Hid (i+1≤refWord l):=Lib.hid (by
       rcases HGO.out with ⟨_,h⟩|⟨h,_⟩
       ·exact h
       ·rw [HG.out] at h;cases h)
      go_wp2_with fail
      go_round
      case rel=>exact ⟨i+1,HN.out,by go_num⟩
      case measure=>simp [intOf];omega
   ·have HG:Hid (goesW l i=true):=Lib.hid (by unfold goesW;rw [hlet];rfl)
    rw [hlet] at HLT
    clear hlet
    go_wp2_with fail
    refine (HLT.out _).mono ?_
    rintro e w1 ⟨rfl,rfl⟩
    have HN:Hid (i+1≤refWord l):=Lib.hid (by
     rcases HGO.out with ⟨_,h⟩|⟨h,_⟩
     ·exact h
     ·rw [HG.out] at h;cases h)
    go_wp2_with fail
    go_round
    case rel=>exact ⟨i+1,HN.out,by go_num⟩
    case measure=>simp [intOf];omega
  ·have HN:Hid (i=refWord l):=Lib.hid (by omega)
   go_wp2_with fail
   go_ret
   exact ⟨by rw [←HN.out];rfl,rfl⟩
theorem rWord_any (w:World) (l:List UInt8) (hl:l.length≤1073741824):Calls Tryz.prog 107 #[str l] w fun e w'=>e= .returned (.bool (wordB l))∧w=w':=by
 have H:=Lib.hid (wordB_ref l)
 have HR:=Lib.hid (fun W=>rword_any W l hl)
 cases h0:(l == [])
 ·by_cases h24:l.length≤24
  ·have hd:decide ((l.length:Int)≤24)=true:=by rw [decide_eq_true_iff];omega
   have hd2:(l.length:Int)≤24:=by omega
   have he:((refWord l:Int) == (l.length:Int))=decide (refWord l=l.length):=by rw [Bool.eq_iff_iff];simp;omega
   rw [h0,decide_eq_true h24] at H
   cases h1:decide (refWord l=l.length)
   all_goals
    rw [h1] at he
    rw [h1] at H
    clear h1
    generalize refWord l=r at *
    go_enter Tryz.func107,Tryz.ntmps107
    go_wp2_with fail
    refine (HR.out _).mono ?_
    rintro e w1 ⟨rfl,rfl⟩
    go_wp2_with fail
    go_ret
    rw [H.out]
    exact ⟨rfl,rfl⟩
  ·have hd:decide ((l.length:Int)≤24)=false:=by simp;omega
   have hd2:¬(l.length:Int)≤24:=by omega
   rw [h0,decide_eq_false h24] at H
   clear h24
   go_enter Tryz.func107,Tryz.ntmps107
   go_wp2_with fail
   go_ret
   rw [H.out]
   exact ⟨rfl,rfl⟩
 ·rw [h0] at H
  go_enter Tryz.func107,Tryz.ntmps107
  go_wp2_with fail
  go_ret
  rw [H.out]
  exact ⟨rfl,rfl⟩
set_option maxRecDepth 100000 in
theorem rnumber_any (w:World) (l:List UInt8) (hl:l.length≤1073741824):Calls Tryz.prog 68 #[str l] w fun e w'=>e= .returned (.int .i64 (runLen numN l:Int))∧w=w':=by
 have hle:=runLen_le numN l
 go_enter Tryz.func68,Tryz.ntmps68
 go_wp2_with fail
 go_loop [3] (fun s=>∃i:Nat,i≤runLen numN l∧s= .int .i64 (i:Int)) (fun s=>l.length-(intOf s).toNat)
 case atStart=>exact ⟨0,Nat.zero_le _,rfl⟩
 case round=>
  obtain ⟨i,hi,rfl⟩:=hrel
  by_cases hlt:i<l.length
  ·have HGO:=Lib.hid (num_go hi hlt)
   have hbl:=byteAt_lt l i
   have HDG:=Lib.hid (fun W=>rdigit_any W (byteAt l i) hbl)
   have h46e:(byteAt l i == 46)=((byteAt l i:Int) == 46):=by rw [Bool.eq_iff_iff];simp;omega
   have H46:=Lib.hid h46e
   clear h46e
   cases hdig:digN (byteAt l i)
   ·rw [hdig] at HDG
    cases h46:((byteAt l i:Int) == 46)
    ·have HG:Hid (numN (byteAt l i)=false):=Lib.hid (by unfold numN;rw [hdig,H46.out,h46];rfl)
     clear hdig
     go_wp2_with fail
     refine (HDG.out _).mono ?_
     rintro e w1 ⟨rfl,rfl⟩
     have HN:Hid (i=runLen numN l):=Lib.hid (by
      rcases HGO.out with ⟨h,_⟩|⟨_,h⟩
      ·rw [HG.out] at h;cases h
      ·exact h)
     go_wp2_with fail
     go_ret
     exact ⟨by rw [←HN.out];rfl,rfl⟩
    ·have HG:Hid (numN (byteAt l i)=true):=Lib.hid (by unfold numN;rw [hdig,H46.out,h46];rfl)
     clear hdig
     go_wp2_with fail
     refine (HDG.out _).mono ?_
     rintro e w1 ⟨rfl,rfl⟩
     have HN:Hid (i+1≤runLen numN l):=Lib.hid (by
      rcases HGO.out with ⟨_,h⟩|⟨h,_⟩
      ·exact h
      ·rw [HG.out] at h;cases h)
     go_wp2_with fail
     go_round
     case rel=>exact ⟨i+1,HN.out,by go_num⟩
     case measure=>simp [intOf];omega
   ·have HG:Hid (numN (byteAt l i)=true):=Lib.hid (by unfold numN;rw [hdig];rfl)
    rw [hdig] at HDG
    clear hdig
    go_wp2_with fail
    refine (HDG.out _).mono ?_
    rintro e w1 ⟨rfl,rfl⟩
    have HN:Hid (i+1≤runLen numN l):=Lib.hid (by
     rcases HGO.out with ⟨_,h⟩|⟨h,_⟩
     ·exact h
     ·rw [HG.out] at h;cases h)
    go_wp2_with fail
    go_round
    case rel=>exact ⟨i+1,HN.out,by go_num⟩
    case measure=>simp [intOf];omega
  ·have HN:Hid (i=runLen numN l):=Lib.hid (by omega)
   go_wp2_with fail
   go_ret
   exact ⟨by rw [←HN.out];rfl,rfl⟩
theorem rsign_any (w:World) (n:Nat) (_hn:n<256):Calls Tryz.prog 70 #[.int .u8 (n:Int)] w fun e w'=>e= .returned (.bool (signN n))∧w=w':=by
 have hc:∀k:Nat,(n == k)=((n:Int) == (k:Int)):=fun k=>by rw [Bool.eq_iff_iff];simp;omega
 have H:Hid (signN n=((n:Int) == 43 || (n:Int) == 45 || (n:Int) == 42 || (n:Int) == 47 || (n:Int) == 94 || (n:Int) == 40 || (n:Int) == 41)):=Lib.hid (by
  unfold signN
  rw [hc 43,hc 45,hc 42,hc 47,hc 94,hc 40,hc 41]
  rfl)
 clear hc
 cases b0:((n:Int) == 43)
 ·skip
  cases b1:((n:Int) == 45)
  ·skip
   cases b2:((n:Int) == 42)
   ·skip
    cases b3:((n:Int) == 47)
    ·skip
     cases b4:((n:Int) == 94)
     ·skip
      cases b5:((n:Int) == 40)
      ·skip
       cases b6:((n:Int) == 41)
       ·skip
        rw [b0,b1,b2,b3,b4,b5,b6] at H
        go_enter Tryz.func70,Tryz.ntmps70
        go_wp2_with fail
        go_ret
        rw [H.out]
        exact ⟨rfl,rfl⟩
       ·skip
        rw [b0,b1,b2,b3,b4,b5,b6] at H
        go_enter Tryz.func70,Tryz.ntmps70
        go_wp2_with fail
        go_ret
        rw [H.out]
        exact ⟨rfl,rfl⟩
      ·skip
       rw [b0,b1,b2,b3,b4,b5] at H
       go_enter Tryz.func70,Tryz.ntmps70
       go_wp2_with fail
       go_ret
       rw [H.out]
       exact ⟨rfl,rfl⟩
     ·skip
      rw [b0,b1,b2,b3,b4] at H
      go_enter Tryz.func70,Tryz.ntmps70
      go_wp2_with fail
      go_ret
      rw [H.out]
      exact ⟨rfl,rfl⟩
    ·skip
     rw [b0,b1,b2,b3] at H
     go_enter Tryz.func70,Tryz.ntmps70
     go_wp2_with fail
     go_ret
     rw [H.out]
     exact ⟨rfl,rfl⟩
   ·skip
    rw [b0,b1,b2] at H
    go_enter Tryz.func70,Tryz.ntmps70
    go_wp2_with fail
    go_ret
    rw [H.out]
    exact ⟨rfl,rfl⟩
  ·skip
   rw [b0,b1] at H
   go_enter Tryz.func70,Tryz.ntmps70
   go_wp2_with fail
   go_ret
   rw [H.out]
   exact ⟨rfl,rfl⟩
 ·skip
  rw [b0] at H
  go_enter Tryz.func70,Tryz.ntmps70
  go_wp2_with fail
  go_ret
  rw [H.out]
  exact ⟨rfl,rfl⟩
end Big
end Go.Proofs.YtaccjdbbkmhanaaGreatDoor
