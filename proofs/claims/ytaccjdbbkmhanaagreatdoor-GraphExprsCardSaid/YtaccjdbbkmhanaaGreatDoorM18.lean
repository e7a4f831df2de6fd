import Derived.Test.YtaccjdbbkmhanaaGreatDoorM5
import Derived.Test.YtaccjdbbkmhanaaGreatDoorM3
import Derived.Test.YtaccjdbbkmhanaaGreatDoorM17
import Derived.Test.YtaccjdbbkmhanaaGreatDoorM12
import Derived.Test.YtaccjdbbkmhanaaGreatDoorM6
import Derived.Lib.ConvBytes
namespace Go.Proofs.YtaccjdbbkmhanaaGreatDoor
namespace Big
open Go.RowKit
theorem bad7_hit {l:List UInt8} (h:(hasDot l && ((part l == []) || ((part l).getLast? == some 48)))=true):bad7 l=true:=by
 unfold bad7
 rw [h]
 rfl
theorem bad7_miss {l:List UInt8} (h:(hasDot l && ((part l == []) || ((part l).getLast? == some 48)))=false):bad7 l=((whole l == []) || ((whole l)[0]? == some 48 && decide (1<(whole l).length))):=by
 unfold bad7
 rw [h]
 rfl
theorem last_byte (P:List UInt8) (k:Nat) (h:P.length=k+1):(P.getLast? == some 48)=((byteAt P k:Int) == 48):=by
 have h1:P.getLast? =some P[k]:=by
  rw [List.getLast?_eq_getElem?,show P.length-1=k by omega,List.getElem?_eq_getElem (by omega)]
 rw [h1,byteAt_eq P k (by omega),Bool.eq_iff_iff]
 simp only [beq_iff_eq,Option.some.injEq]
 constructor
 ·intro e;rw [e];rfl
 ·intro e
  apply UInt8.toNat_inj.1
  have:P[k].toNat=48:=by omega
  rw [this];rfl
theorem first_byte (W:List UInt8) (k:Nat) (h:W.length=k+1):(W[0]? == some 48)=((byteAt W 0:Int) == 48):=by
 rw [byteAt_eq W 0 (by omega),List.getElem?_eq_getElem (by omega),Bool.eq_iff_iff]
 simp only [beq_iff_eq,Option.some.injEq]
 constructor
 ·intro e;rw [e];rfl
 ·intro e
  apply UInt8.toNat_inj.1
  have:W[0].toNat=48:=by omega
  rw [this];rfl
end Big
end Go.Proofs.YtaccjdbbkmhanaaGreatDoor
namespace Go.Proofs.YtaccjdbbkmhanaaGreatDoor
namespace Big
open Go.RowKit
theorem rten_any (w:World) (n:Nat) (hn:n≤100000):
  Calls Tryz.prog 90 #[.int .i64 (n:Int)] w fun e w'=>∃v',e= .returned v'∧IsInt w.heap.size w' v' ((10 ^ n:Nat):Int)∧Ext w w':=by
 have HOF:=Lib.hid (fun W=>rof_any W 1 (by decide))
 rw [show ((1:Nat):Int)=1 from rfl] at HOF
 have HLEN:Hid (∀k,k≤n→(limbs (10 ^ k)).length≤100001):=Lib.hid (fun k hk=>limbs_dec (k:=k+1) (Nat.pow_lt_pow_right (by decide) (by omega)) (by omega))
 go_enter Tryz.func90,Tryz.ntmps90
 go_wp2_with fail
 refine (HOF.out _).mono ?_
 rintro e w1 ⟨v1,rfl,ho1,hx1⟩
 have HB1:=Lib.hid ((Blk.new w 115 #[Value.bool false,Value.slice none 0 0]).ext hx1)
 have HX1:=Lib.hid (((Ext.refl w).alloc (.cells #[Value.bool false,Value.slice none 0 0] 115)).trans hx1)
 have HO1:=Lib.hid (ho1.mono (show w.heap.size+1≤_ by simp))
 obtain ⟨n1,A1,c1,rfl⟩:=ho1.arr.2.shape
 clear ho1 hx1
 go_wp2_with fail
 go_loopw [3,6] (fun s3 s6 wr=>∃(k:Nat) (m:Nat) (A:Option Addr) (c:Nat),k≤n∧s6= .int .i64 (k:Int)∧s3= .slice A m c∧Own (w.heap.size+1) wr s3 (limbs (10 ^ k))∧Blk wr w.heap.size 115 #[Value.bool false,Value.slice none 0 0]∧Ext w wr) (fun _ s6 _=>n-(intOf s6).toNat)
 case atStart=>exact ⟨0,n1,A1,c1,Nat.zero_le _,rfl,rfl,HO1.out,HB1.out,HX1.out⟩
 case round=>
  obtain ⟨k,m,A,c,hk,rfl,rfl,ho,hb,hx⟩:=hrel
  have HO:=Lib.hid ho
  have HB:=Lib.hid hb
  have HX:=Lib.hid hx
  have hsz:=hb.lt
  by_cases hlt:k<n
  ·have HS:=Lib.hid (rsmall_any wr _ _ 10 0 ho.arr (by have:=HLEN.out k hk;omega) (by decide) (by decide))
   rw [val_limbs,Nat.add_zero,←Nat.pow_succ,show ((10:Nat):Int)=10 from rfl,show ((0:Nat):Int)=0 from rfl] at HS
   clear ho hb hx
   go_wp2_with fail
   refine HS.out.mono ?_
   rintro e w2 ⟨v2,rfl,ho2,hx2⟩
   have HO2:=Lib.hid (ho2.mono hsz)
   have HB2:=Lib.hid (HB.out.ext hx2)
   have HX2:=Lib.hid (HX.out.trans hx2)
   obtain ⟨n2,A2,c2,rfl⟩:=ho2.arr.2.shape
   clear ho2 hx2
   go_wp2_with fail
   go_roundw
   case rel=>exact ⟨k+1,n2,A2,c2,by omega,by go_num,rfl,HO2.out,HB2.out,HX2.out⟩
   case measure=>simp [intOf];omega
  ·obtain rfl:k=n:=by omega
   have HI:=Lib.hid (rnat_any wr false _ _ ho.arr (by have:=HLEN.out k hk;omega))
   rw [val_limbs] at HI
   clear ho hb hx
   go_wp2_with fail
   refine HI.out.mono ?_
   rintro e w2 ⟨v2,rfl,hi2,hx2⟩
   have HI2:=Lib.hid (hi2.mono hsz)
   have hb2:=HB.out.ext hx2
   have HB2:=Lib.hid hb2
   have HX2:=Lib.hid (HX.out.trans hx2)
   obtain ⟨b2,n2,A2,c2,rfl⟩:=hi2.shape
   obtain ⟨k0,k1,f0,f1,hgz⟩:=hb2.two
   clear hi2 hx2 hb2
   go_wp2_with fail
   obtain ⟨hr0,hr1⟩:=two_set' HB2.out (.bool b2) (.slice A2 n2 c2)
   refine bodyPost_ret (v:= .agg #[.bool b2,.slice A2 n2 c2]) (by simp [results,Tryz.results90,go_sem,hr0,hr1]) rfl ?_
   have hst:=IsInt.stored HB2.out HI2.out (Nat.lt_succ_self _) HX2.out (Nat.le_refl _)
   exact ⟨_,rfl,hst⟩
def DecRes (w:World) (l:List UInt8) (e:Ending) (w':World):Prop:=
 ∃a b:List UInt8,e= .returned (.tuple #[str a,str b,.bool (good7 l)])∧(good7 l=true→a=whole l∧b=part l)∧Ext w w'
theorem last_of {l:List UInt8} {k:Nat} (h:hasDot l=true) (hk:l.length=k+1):(part l=[]→byteAt l k=46)∧(part l≠[]→((part l).getLast? == some 48)=((byteAt l k:Int) == 48)):=by
 rcases dot_split l with ⟨_,h2⟩|⟨h1,_⟩
 ·have hg:byteAt l k=byteAt (whole l++46::part l) k:=congrArg (fun z=>byteAt z k) h2
  have hlen:=congrArg List.length h2
  rw [List.length_append,List.length_cons,hk] at hlen
  constructor
  ·intro hp
   rw [hg]
   rw [hp] at hlen ⊢
   simp only [List.length_nil] at hlen
   unfold byteAt
   rw [List.getD_eq_getElem?_getD,List.getElem?_append_right (by omega),show k-(whole l).length=0 by omega]
   rfl
  ·intro hp
   obtain ⟨j,hj⟩:∃j,(part l).length=j+1:=⟨(part l).length-1,by have:=List.length_pos_iff.2 hp;omega⟩
   rw [last_byte (part l) j hj,hg]
   have:byteAt (whole l++46::part l) k=byteAt (part l) j:=by
    unfold byteAt
    rw [List.getD_eq_getElem?_getD,List.getD_eq_getElem?_getD,List.getElem?_append_right (by omega),show k-(whole l).length=j+1 by omega,List.getElem?_cons_succ]
   rw [this]
 ·rw [h] at h1;cases h1
theorem part_digit {l:List UInt8} {k:Nat} (ha:allD l=true) (h:hasDot l=true) (hp:part l≠[]) (hk:l.length=k+1):48≤byteAt l k:=by
 rcases dot_split l with ⟨_,h2⟩|⟨h1,_⟩
 ·have hg:byteAt l k=byteAt (whole l++46::part l) k:=congrArg (fun z=>byteAt z k) h2
  have hlen:=congrArg List.length h2
  rw [List.length_append,List.length_cons,hk] at hlen
  obtain ⟨j,hj⟩:∃j,(part l).length=j+1:=⟨(part l).length-1,by have:=List.length_pos_iff.2 hp;omega⟩
  have h3:byteAt (whole l++46::part l) k=byteAt (part l) j:=by
   unfold byteAt
   rw [List.getD_eq_getElem?_getD,List.getD_eq_getElem?_getD,List.getElem?_append_right (by omega),show k-(whole l).length=j+1 by omega,List.getElem?_cons_succ]
  rw [hg,h3,byteAt_eq _ _ (by omega)]
  have h4:isDig (part l)[j]=true:=by
   unfold allD at ha
   rw [List.all_append,Bool.and_eq_true] at ha
   exact List.all_eq_true.1 ha.2 _ (List.getElem_mem _)
  unfold isDig at h4
  simp only [Bool.and_eq_true,decide_eq_true_eq] at h4
  exact h4.1
 ·rw [h] at h1;cases h1
theorem first_whole {l:List UInt8} (h:0<(whole l).length):((whole l)[0]? == some 48)=((byteAt l 0:Int) == 48):=by
 obtain ⟨k,hk⟩:∃k,(whole l).length=k+1:=⟨(whole l).length-1,by omega⟩
 rw [first_byte (whole l) k hk]
 have:byteAt (whole l) 0=byteAt l 0:=by
  have h1:=take_whole l
  rw [←h1]
  unfold byteAt
  rw [List.getD_eq_getElem?_getD,List.getD_eq_getElem?_getD,List.getElem?_take_of_lt h]
 rw [this]
set_option maxHeartbeats 1000000 in
set_option maxRecDepth 100000 in
theorem rdecimal_any (w:World) (l:List UInt8) (hl:l.length≤1073741824):
  Calls Tryz.prog 86 #[str l] w (DecRes w l):=by
 go_enter Tryz.func86,Tryz.ntmps86
 go_wp2_with fail
 go_loopw [5,6] (fun s5 s6 wr=>∃i p:Nat,i≤l.length∧s6= .int .i64 (i:Int)∧s5= .int .i64 (p:Int)∧Hid (allD (l.take i)=true)∧Hid (p=if hasDot (l.take i) then (whole l).length else l.length)∧w=wr) (fun _ s6 _=>l.length-(intOf s6).toNat)
 case atStart=>exact ⟨0,l.length,Nat.zero_le _,rfl,rfl,Lib.hid (by rw [List.take_zero];rfl),Lib.hid (by rw [List.take_zero];rfl),rfl⟩
 case round=>
  obtain ⟨i,p,hi,rfl,rfl,HA,HP,rfl⟩:=hrel
  by_cases hlt:i<l.length
  ·have hst:=read_step hlt HA.out
   have hby:=byteAt_eq l i hlt
   have HS1:=Lib.hid hst.1
   have HS2:=Lib.hid hst.2
   have HFD:=Lib.hid (first_dot l i hlt)
   have HDT:=Lib.hid (dot_of_take (l:=l) (j:=i))
   have HBAD:Hid (allD (l.take (i+1))=false→good7 l=false):=Lib.hid (fun h=>by rw [good7_eq,read_bad h,Bool.and_false])
   have hbl:=byteAt_lt l i
   clear hst
   generalize l[i]=c at *
   have hc46:(c == 46)=((byteAt l i:Int) == 46):=by
    rw [hby,Bool.eq_iff_iff]
    simp only [beq_iff_eq]
    constructor
    ·intro e;rw [e];rfl
    ·intro e
     apply UInt8.toNat_inj.1
     have:c.toNat=46:=by omega
     rw [this];rfl
   have hcd:isDig c=(decide (48≤byteAt l i) && decide (byteAt l i≤57)):=by rw [hby];rfl
   have HC46:=Lib.hid hc46
   have HCD:=Lib.hid hcd
   clear hc46 hcd hby
   cases hD:hasDot (l.take i)
   ·have hp:p=l.length:=by rw [HP.out,hD];rfl
    subst hp
    cases h46:((byteAt l i:Int) == 46)
    ·rcases Nat.lt_or_ge (byteAt l i) 48 with h48|h48
     ·have HG:Hid (good7 l=false):=Lib.hid (HBAD.out (by rw [HS1.out,hD,HC46.out,h46,HCD.out];simp;omega))
      have hd1:decide ((byteAt l i:Int)<48)=true:=by rw [decide_eq_true_iff];omega
      have h48':(byteAt l i:Int)<48:=by omega
      clear hD
      go_wp2_with fail
      go_ret3
      exact ⟨[],[],by rw [HG.out];rfl,(fun h=>by rw [HG.out] at h;cases h),Ext.refl _⟩
     ·have hd1:decide ((byteAt l i:Int)<48)=false:=by simp;omega
      have h48':¬(byteAt l i:Int)<48:=by omega
      rcases Nat.lt_or_ge 57 (byteAt l i) with h57|h57
      ·have HG:Hid (good7 l=false):=Lib.hid (HBAD.out (by rw [HS1.out,hD,HC46.out,h46,HCD.out];simp;omega))
       have hd2:decide ((57:Int)<(byteAt l i:Int))=true:=by rw [decide_eq_true_iff];omega
       have h57':(57:Int)<(byteAt l i:Int):=by omega
       clear hD
       go_wp2_with fail
       go_ret3
       exact ⟨[],[],by rw [HG.out];rfl,(fun h=>by rw [HG.out] at h;cases h),Ext.refl _⟩
      ·have hd2:decide ((57:Int)<(byteAt l i:Int))=false:=by simp;omega
       have h57':¬(57:Int)<(byteAt l i:Int):=by omega
       have HN1:Hid (allD (l.take (i+1))=true):=Lib.hid (by rw [HS1.out,HC46.out,h46,HCD.out];simp;omega)
       have HN2:Hid (hasDot (l.take (i+1))=hasDot (l.take i)):=Lib.hid (by rw [HS2.out,HC46.out,h46,Bool.or_false])
       clear hD
       go_wp2_with fail
       go_roundw
       case rel=>exact ⟨i+1,_,by omega,by go_num,rfl,HN1,Lib.hid (by rw [HN2.out];exact HP.out),(by first|rfl|trivial)⟩
       case measure=>simp [intOf];omega
    ·have HN:Hid ((whole l).length=i):=Lib.hid (HFD.out hD (by have:=HC46.out;rw [h46] at this;simpa using this))
     have HN1:Hid (allD (l.take (i+1))=true):=Lib.hid (by rw [HS1.out,hD,HC46.out,h46];rfl)
     have HN2:Hid (hasDot (l.take (i+1))=true):=Lib.hid (by rw [HS2.out,HC46.out,h46,Bool.or_true])
     have hpp:((l.length:Int) == (l.length:Int))=true:=by simp
     clear hD
     go_wp2_with fail
     go_roundw
     case rel=>exact ⟨i+1,i,by omega,by go_num,rfl,HN1,Lib.hid (by rw [HN2.out,HN.out];rfl),(by first|rfl|trivial)⟩
     case measure=>simp [intOf];omega
   ·have hpw:p=(whole l).length:=by rw [HP.out,hD];rfl
    have hlt2:=HDT.out hD
    have hpe:((p:Int) == (l.length:Int))=false:=by rw [beq_eq_false_iff_ne];omega
    cases h46:((byteAt l i:Int) == 46)
    ·rcases Nat.lt_or_ge (byteAt l i) 48 with h48|h48
     ·have HG:Hid (good7 l=false):=Lib.hid (HBAD.out (by rw [HS1.out,hD,HC46.out,h46,HCD.out];simp;omega))
      have hd1:decide ((byteAt l i:Int)<48)=true:=by rw [decide_eq_true_iff];omega
      have h48':(byteAt l i:Int)<48:=by omega
      clear hD
      go_wp2_with fail
      go_ret3
      exact ⟨[],[],by rw [HG.out];rfl,(fun h=>by rw [HG.out] at h;cases h),Ext.refl _⟩
     ·have hd1:decide ((byteAt l i:Int)<48)=false:=by simp;omega
      have h48':¬(byteAt l i:Int)<48:=by omega
      rcases Nat.lt_or_ge 57 (byteAt l i) with h57|h57
      ·have HG:Hid (good7 l=false):=Lib.hid (HBAD.out (by rw [HS1.out,hD,HC46.out,h46,HCD.out];simp;omega))
       have hd2:decide ((57:Int)<(byteAt l i:Int))=true:=by rw [decide_eq_true_iff];omega
       have h57':(57:Int)<(byteAt l i:Int):=by omega
       clear hD
       go_wp2_with fail
       go_ret3
       exact ⟨[],[],by rw [HG.out];rfl,(fun h=>by rw [HG.out] at h;cases h),Ext.refl _⟩
      ·have hd2:decide ((57:Int)<(byteAt l i:Int))=false:=by simp;omega
       have h57':¬(57:Int)<(byteAt l i:Int):=by omega
       have HN1:Hid (allD (l.take (i+1))=true):=Lib.hid (by rw [HS1.out,HC46.out,h46,HCD.out];simp;omega)
       have HN2:Hid (hasDot (l.take (i+1))=hasDot (l.take i)):=Lib.hid (by rw [HS2.out,HC46.out,h46,Bool.or_false])
       clear hD
       go_wp2_with fail
       go_roundw
       case rel=>exact ⟨i+1,_,by omega,by go_num,rfl,HN1,Lib.hid (by rw [HN2.out];exact HP.out),(by first|rfl|trivial)⟩
       case measure=>simp [intOf];omega
    ·have h48:(byteAt l i:Int)<48:=by
      have:(byteAt l i:Int)=46:=by simpa using h46
      omega
     have HG:Hid (good7 l=false):=Lib.hid (HBAD.out (by rw [HS1.out,hD,HCD.out];simp;omega))
     have hd1:decide ((byteAt l i:Int)<48)=true:=by simpa using h48
     clear hD hpw hlt2
     go_wp2_with fail
     go_ret3
     exact ⟨[],[],by rw [HG.out];rfl,(fun h=>by rw [HG.out] at h;cases h),Ext.refl _⟩
  ·obtain rfl:i=l.length:=by omega
   rw [List.take_of_length_le (Nat.le_refl _)] at HA HP
   have hpw:p=(whole l).length:=by
    rw [HP.out]
    cases hD:hasDot l
    ·rw [nodot_whole hD];rfl
    ·rfl
   subst hpw
   clear HP
   rcases Nat.eq_zero_or_pos (whole l).length with hw0|hw0
   ·have HG:Hid (good7 l=false):=Lib.hid (by
     have h1:whole l=[]:=List.eq_nil_of_length_eq_zero hw0
     have h2:bad7 l=true:=by unfold bad7;rw [h1];simp
     rw [good7_eq,h2];rfl)
    have hz:(((whole l).length:Int) == 0)=true:=by rw [hw0];rfl
    clear hw0
    go_wp2_with fail
    go_ret3
    exact ⟨[],[],by rw [HG.out];rfl,(fun h=>by rw [HG.out] at h;cases h),Ext.refl _⟩
   ·have hz:(((whole l).length:Int) == 0)=false:=by rw [beq_eq_false_iff_ne];omega
    have hwle:=whole_le l
    have hl0:(0:Int)<(l.length:Int):=by omega
    have HW0:Hid ((whole l == [])=false):=Lib.hid (by rw [beq_eq_false_iff_ne];intro e;rw [e] at hw0;simp at hw0)
    have hfb:=first_whole hw0
    rcases Nat.lt_or_ge 1 (whole l).length with h1w|h1w
    ·have hd:(1:Int)<((whole l).length:Int):=by omega
     cases hb0:((byteAt l 0:Int) == 48)
     ·have HWZ:Hid (((whole l)[0]? == some 48 && decide (1<(whole l).length))=false):=Lib.hid (by rw [hfb,hb0];rfl)
      clear hfb
      cases hD:hasDot l
      ·have hwl2:=nodot_whole hD
       have HG:Hid (good7 l=true):=Lib.hid (by rw [good7_eq,HA.out,bad7_miss (by rw [hD];rfl),HW0.out,HWZ.out];rfl)
       have hpe:(((whole l).length:Int) == (l.length:Int))=true:=by rw [beq_iff_eq];omega
       have hnl:¬((whole l).length:Int)<(l.length:Int):=by omega
       have HE:Hid (whole l=l∧part l=[]):=Lib.hid (by
        rcases dot_split l with ⟨h1,_⟩|⟨_,h2,h3⟩
        ·rw [hD] at h1;cases h1
        ·exact ⟨h2.symm,h3⟩)
       clear hD hwl2
       go_wp2_with fail
       go_ret3
       exact ⟨l,[],by rw [HG.out];rfl,(fun _=>⟨HE.out.1.symm,HE.out.2.symm⟩),Ext.refl _⟩
      ·have hlt3:(whole l).length<l.length:=of_decide_eq_true hD
       have hpe:(((whole l).length:Int) == (l.length:Int))=false:=by rw [beq_eq_false_iff_ne];omega
       have hnl:((whole l).length:Int)<(l.length:Int):=by omega
       obtain ⟨k,hk⟩:∃k,l.length=k+1:=⟨l.length-1,by omega⟩
       have hks:(l.length:Int)-1=(k:Int):=by omega
       have hk0:(k:Int)<(l.length:Int):=by omega
       have HLAST:=Lib.hid (last_of hD hk)
       rcases Nat.eq_zero_or_pos (part l).length with hp0|hp0
       ·have hpn:part l=[]:=List.eq_nil_of_length_eq_zero hp0
        have HG:Hid (good7 l=false):=Lib.hid (by rw [good7_eq,bad7_hit (by rw [hD,hpn];rfl)];rfl)
        have hby:=HLAST.out.1 hpn
        have hb1:((byteAt l k:Int) == 48)=false:=by rw [hby];rfl
        have hb2:((byteAt l k:Int) == 46)=true:=by rw [hby];rfl
        clear hD hk hp0 hpn hby
        go_wp2_with fail
        go_ret3
        exact ⟨[],[],by rw [HG.out];rfl,(fun h=>by rw [HG.out] at h;cases h),Ext.refl _⟩
       ·have hpn:part l≠[]:=fun e=>by rw [e] at hp0;simp at hp0
        have hpe2:(part l == [])=false:=by rw [beq_eq_false_iff_ne];exact hpn
        have hby:=HLAST.out.2 hpn
        cases hb:((byteAt l k:Int) == 48)
        ·have HG:Hid (good7 l=true):=Lib.hid (by rw [good7_eq,HA.out,bad7_miss (by rw [hD,hpe2,hby,hb];rfl),HW0.out,HWZ.out];rfl)
         have hb2:((byteAt l k:Int) == 46)=false:=by
          have h1:=part_digit HA.out hD hpn hk
          rw [beq_eq_false_iff_ne]
          omega
         have HTW:=Lib.hid (take_whole l)
         have HDP:=Lib.hid (drop_part hD)
         have hw1:IntKind.i64.wrap (((whole l).length:Int)+1)=((whole l).length:Int)+1:=IntWalk.i64_in _ (by omega)
         have hw2:(0:Int)≤((whole l).length:Int)+1:=by omega
         have hw3:((whole l).length:Int)+1≤(l.length:Int):=by omega
         have hw4:(((whole l).length:Int)+1).toNat=(whole l).length+1:=by omega
         have hw5:((whole l).length:Int)≤(l.length:Int):=by omega
         clear hD hk hp0 hpn hby hpe2
         go_wp2_with fail
         go_quiet (fail)
         go_wp2_with fail
         go_ret3
         exact ⟨_,_,by rw [HG.out];rfl,(fun _=>⟨HTW.out,HDP.out⟩),(Ext.refl _).drewN _⟩
        ·have HG:Hid (good7 l=false):=Lib.hid (by rw [good7_eq,bad7_hit (by rw [hD,hpe2,hby,hb];rfl)];rfl)
         clear hD hk hp0 hpn hby hpe2
         go_wp2_with fail
         go_ret3
         exact ⟨[],[],by rw [HG.out];rfl,(fun h=>by rw [HG.out] at h;cases h),Ext.refl _⟩
     ·have HG:Hid (good7 l=false):=Lib.hid (by
       have h2:bad7 l=true:=by unfold bad7;rw [hfb,hb0];simp [h1w]
       rw [good7_eq,h2];rfl)
      clear hfb
      go_wp2_with fail
      go_ret3
      exact ⟨[],[],by rw [HG.out];rfl,(fun h=>by rw [HG.out] at h;cases h),Ext.refl _⟩
    ·have hd:¬(1:Int)<((whole l).length:Int):=by omega
     have HWZ:Hid (((whole l)[0]? == some 48 && decide (1<(whole l).length))=false):=Lib.hid (by rw [decide_eq_false (by omega),Bool.and_false])
     clear hfb
     cases hD:hasDot l
     ·have hwl2:=nodot_whole hD
      have HG:Hid (good7 l=true):=Lib.hid (by rw [good7_eq,HA.out,bad7_miss (by rw [hD];rfl),HW0.out,HWZ.out];rfl)
      have hpe:(((whole l).length:Int) == (l.length:Int))=true:=by rw [beq_iff_eq];omega
      have hnl:¬((whole l).length:Int)<(l.length:Int):=by omega
      have HE:Hid (whole l=l∧part l=[]):=Lib.hid (by
       rcases dot_split l with ⟨h1,_⟩|⟨_,h2,h3⟩
       ·rw [hD] at h1;cases h1
       ·exact ⟨h2.symm,h3⟩)
      clear hD hwl2
      go_wp2_with fail
      go_ret3
      exact ⟨l,[],by rw [HG.out];rfl,(fun _=>⟨HE.out.1.symm,HE.out.2.symm⟩),Ext.refl _⟩
     ·have hlt3:(whole l).length<l.length:=of_decide_eq_true hD
      have hpe:(((whole l).length:Int) == (l.length:Int))=false:=by rw [beq_eq_false_iff_ne];omega
      have hnl:((whole l).length:Int)<(l.length:Int):=by omega
      obtain ⟨k,hk⟩:∃k,l.length=k+1:=⟨l.length-1,by omega⟩
      have hks:(l.length:Int)-1=(k:Int):=by omega
      have hk0:(k:Int)<(l.length:Int):=by omega
      have HLAST:=Lib.hid (last_of hD hk)
      rcases Nat.eq_zero_or_pos (part l).length with hp0|hp0
      ·have hpn:part l=[]:=List.eq_nil_of_length_eq_zero hp0
       have HG:Hid (good7 l=false):=Lib.hid (by rw [good7_eq,bad7_hit (by rw [hD,hpn];rfl)];rfl)
       have hby:=HLAST.out.1 hpn
       have hb1:((byteAt l k:Int) == 48)=false:=by rw [hby];rfl
       have hb2:((byteAt l k:Int) == 46)=true:=by rw [hby];rfl
       clear hD hk hp0 hpn hby
       go_wp2_with fail
       go_ret3
       exact ⟨[],[],by rw [HG.out];rfl,(fun h=>by rw [HG.out] at h;cases h),Ext.refl _⟩
      ·have hpn:part l≠[]:=fun e=>by rw [e] at hp0;simp at hp0
       have hpe2:(part l == [])=false:=by rw [beq_eq_false_iff_ne];exact hpn
       have hby:=HLAST.out.2 hpn
       cases hb:((byteAt l k:Int) == 48)
       ·have HG:Hid (good7 l=true):=Lib.hid (by rw [good7_eq,HA.out,bad7_miss (by rw [hD,hpe2,hby,hb];rfl),HW0.out,HWZ.out];rfl)
        have hb2:((byteAt l k:Int) == 46)=false:=by
         have h1:=part_digit HA.out hD hpn hk
         rw [beq_eq_false_iff_ne]
         omega
        have HTW:=Lib.hid (take_whole l)
        have HDP:=Lib.hid (drop_part hD)
        have hw1:IntKind.i64.wrap (((whole l).length:Int)+1)=((whole l).length:Int)+1:=IntWalk.i64_in _ (by omega)
        have hw2:(0:Int)≤((whole l).length:Int)+1:=by omega
        have hw3:((whole l).length:Int)+1≤(l.length:Int):=by omega
        have hw4:(((whole l).length:Int)+1).toNat=(whole l).length+1:=by omega
        have hw5:((whole l).length:Int)≤(l.length:Int):=by omega
        clear hD hk hp0 hpn hby hpe2
        go_wp2_with fail
        go_quiet (fail)
        go_wp2_with fail
        go_ret3
        exact ⟨_,_,by rw [HG.out];rfl,(fun _=>⟨HTW.out,HDP.out⟩),(Ext.refl _).drewN _⟩
       ·have HG:Hid (good7 l=false):=Lib.hid (by rw [good7_eq,bad7_hit (by rw [hD,hpe2,hby,hb];rfl)];rfl)
        clear hD hk hp0 hpn hby hpe2
        go_wp2_with fail
        go_ret3
        exact ⟨[],[],by rw [HG.out];rfl,(fun h=>by rw [HG.out] at h;cases h),Ext.refl _⟩
end Big
end Go.Proofs.YtaccjdbbkmhanaaGreatDoor
namespace Go.Proofs.YtaccjdbbkmhanaaGreatDoor
namespace Big
open Go.RowKit
def bytesAt (w:World) (l:List UInt8):World:=Lib.bytesWorld w 5 ⟨l.toArray⟩
theorem bytesAt_ext (w:World) (l:List UInt8):Ext w (bytesAt w l):=by
 refine ⟨?_,?_,?_,?_,fun k hk=>Lib.bytesWorld_at_old w _ _ k hk⟩
 ·simp [bytesAt,Lib.bytesWorld,World.freeze,World.alloc,World.drew,-World.alloc_eq,-World.drew_eq]
 ·simp [bytesAt,Lib.bytesWorld,World.freeze,World.alloc,World.drew,-World.alloc_eq,-World.drew_eq]
 ·simp [bytesAt,Lib.bytesWorld,World.freeze,World.alloc,World.drew,-World.alloc_eq,-World.drew_eq]
 ·unfold bytesAt;rw [Lib.bytesWorld_size];omega
theorem bytesAt_cell (w:World) (l:List UInt8) (j:Nat) (h:j<l.length):(bytesAt w l).cell? ⟨w.heap.size,j,none⟩=some (.int .u8 (byteAt l j:Int)):=by
 unfold bytesAt byteAt
 rw [Lib.bytesWorld_cell w _ _ j (by rw [size_str];exact h)]
theorem bytesAt_lt (w:World) (l:List UInt8):w.heap.size<(bytesAt w l).heap.size:=by unfold bytesAt;rw [Lib.bytesWorld_size];omega
theorem run_bytesAt (w:World) (l:List UInt8):∃c,(convert 9 127 (str l)).run Tryz.prog w= .ok (.slice (some ⟨w.heap.size,0,none⟩) l.length c) (bytesAt w l)∧l.length≤c:=by
 have:=Lib.run_convert_string_bytes (P:=Tryz.prog) w 9 127 5 ⟨l.toArray⟩ Tryz.underlying9 Tryz.underlying127 Tryz.underlying5
 rw [size_str] at this
 exact ⟨_,this,grownCap_ge w l.length 0 _⟩
end Big
end Go.Proofs.YtaccjdbbkmhanaaGreatDoor
namespace Go.Proofs.YtaccjdbbkmhanaaGreatDoor
namespace Big
open Go.RowKit
def num7 (l:List UInt8):Int:=lowN (numOf (whole l++part l)) (10 ^ (part l).length)
def den7 (l:List UInt8):Nat:=lowD (numOf (whole l++part l)) (10 ^ (part l).length)
def ParseRes7 (w:World) (l:List UInt8) (e:Ending) (w':World):Prop:=
 ∃v',e= .returned (.tuple #[v',.int .i64 (code7 l:Int)])∧IsRat w.heap.size w' v' (if code7 l=0 then num7 l else 0) (if code7 l=0 then den7 l else 0)∧Ext w w'
end Big
end Go.Proofs.YtaccjdbbkmhanaaGreatDoor
