import Derived.Test.YtaccjdbbkmhanaaGreatDoorM22
import Derived.Test.YtaccjdbbkmhanaaGreatDoorM6
import Derived.Test.YtaccjdbbkmhanaaGreatDoorM5
import Derived.Test.YtaccjdbbkmhanaaGreatDoorM1
import Derived.Test.YtaccjdbbkmhanaaGreatDoorM21
import Derived.Test.YtaccjdbbkmhanaaGreatDoorM18
import Derived.Deep.CutBlock
import Derived.Test.YtaccjdbbkmhanaaGreatDoorM16
import Derived.Test.YtaccjdbbkmhanaaGreatDoorM9
namespace Go.Proofs.YtaccjdbbkmhanaaGreatDoor
namespace Big
open Go.RowKit
theorem natural_long (w:World) (l:List UInt8) (h:20001<l.length):
  Calls Tryz.prog 95 #[str l] w fun e w'=>e= .returned (.tuple #[.slice none 0 0,.int .i64 7])∧w=w':=by
 have h':(20001:Int)<(l.length:Int):=by omega
 clear h
 go_enter Tryz.func95,Tryz.ntmps95
 go_wp2_with fail
 go_ret2
 exact ⟨rfl,rfl⟩
theorem natural_empty (w:World):
  Calls Tryz.prog 95 #[str []] w fun e w'=>e= .returned (.tuple #[.slice none 0 0,.int .i64 6])∧w=w':=by
 go_enter Tryz.func95,Tryz.ntmps95
 go_wp2_with fail
 go_ret2
 exact ⟨rfl,rfl⟩
theorem natural_zero (w:World) (l:List UInt8) (h0:byteAt l 0=48) (h1:1<l.length) (h:l.length≤20001):
  Calls Tryz.prog 95 #[str l] w fun e w'=>e= .returned (.tuple #[.slice none 0 0,.int .i64 6])∧w=w':=by
 have h00:((byteAt l 0:Int) == 48)=true:=by rw [h0];rfl
 have hle:¬(20001:Int)<(l.length:Int):=by omega
 have hne:(l == [])=false:=by cases l<;>simp_all
 clear h h0
 go_enter Tryz.func95,Tryz.ntmps95
 go_wp2_with fail
 go_ret2
 exact ⟨rfl,rfl⟩
def NumAt (w0 wr:World) (out:Value) (l:List UInt8) (k j c:Nat):Prop:=
 ∃a:Nat,Own w0.heap.size wr out (limbs a)∧numOf (l.take k)=a*10 ^ j+c∧a<10 ^ k∧Ext w0 wr
def NatRes (w0:World) (r:Nat × Nat) (e:Ending) (w':World):Prop:=
 ∃v':Value,e= .returned (.tuple #[v',.int .i64 (r.2:Int)])∧Own w0.heap.size w' v' (limbs r.1)∧Ext w0 w'
set_option maxHeartbeats 1000000 in
theorem natural_some (w:World) (l:List UInt8) (hne:l≠[]) (hz:¬(byteAt l 0=48∧1<l.length)) (h:l.length≤20001) (r:Nat × Nat) (hr1:l.all isDig=true→r=(numOf l,0)) (hr2:l.all isDig=false→r=(0,6)):
  Calls Tryz.prog 95 #[str l] w (NatRes w r):=by
 have HR1:=Lib.hid hr1
 have HR2:=Lib.hid hr2
 clear hr1 hr2
 have hle:¬(20001:Int)<(l.length:Int):=by omega
 have hne':(l == [])=false:=by cases l<;>simp_all
 have hl0:0<l.length:=by cases l<;>simp_all
 have hcase:((byteAt l 0:Int) == 48)=false∨(((byteAt l 0:Int) == 48)=true∧¬(1:Int)<(l.length:Int)):=by
  by_cases h0:byteAt l 0=48
  ·exact .inr ⟨by rw [h0];rfl,by omega⟩
  ·exact .inl (by rw [beq_eq_false_iff_ne];omega)
 have HL:=Lib.hid h
 clear h hne hz
 rcases hcase with h00|⟨h00,h11⟩
 all_goals
  go_enter Tryz.func95,Tryz.ntmps95
  go_wp2_with fail
  go_loopw [4,5,6,25] (fun out cv sv i wr=>∃k j c:Nat,k≤l.length∧j≤8∧c<10 ^ j∧(k=l.length→j=0)∧i= .int .i64 k∧cv= .int .u32 c∧sv= .int .u32 ((10 ^ j:Nat):Int)∧(l.take k).all isDig=true∧NumAt w wr out l k j c) (fun _ _ _ i _=>l.length-(intOf i).toNat)
  case atStart=>exact ⟨0,0,0,by omega,by omega,by omega,fun _=>rfl,rfl,rfl,rfl,rfl,0,Own.none_ _ _,rfl,by omega,Ext.refl _⟩
  case round=>
   obtain ⟨k,j,c,hk,hj,hc,hkl,rfl,rfl,rfl,hall,hN⟩:=hrel
   by_cases hlt:k<l.length
   ·have hb:=byteAt_lt l k
    have hbe:=byteAt_eq l k hlt
    have hdig:=isDig_iff l[k]
    rw [←hbe] at hdig
    have hta:=take_all l k hlt
    have hnt:=numOf_take l k hlt
    rw [←hbe] at hnt
    rw [hall,Bool.true_and] at hta
    have HAF:=Lib.hid (fun hf=>all_false_of hlt hf)
    have HDIG:=Lib.hid hdig
    have HTA:=Lib.hid hta
    have HNT:=Lib.hid hnt
    clear hbe hdig hta hnt
    obtain ⟨b,hbb⟩:∃b,byteAt l k=b:=⟨_,rfl⟩
    have HBB:=Lib.hid hbb
    rw [hbb] at HDIG HNT hb
    have HC10:=Lib.hid hc
    by_cases hd:48≤b∧b≤57
    ·have HT1:=Lib.hid (HTA.out.trans (HDIG.out.2 hd))
     obtain ⟨a,hown,hnum,hak,hext⟩:=hN
     have hP8:=ten_pow_bound hj
     have hP9:=ten_pow_9 hj
     have HALL:=Lib.hid hall
     have HA10:=Lib.hid hak
     have hll:=limbs_len_pow hak
     have HGD:=Lib.hid (group_digit (d:=b-48) hnum)
     have HNUM:=Lib.hid hnum
     clear hall hak hnum hkl
     have HPS:=Lib.hid (show 10 ^ (j+1)=10*10 ^ j by rw [Nat.pow_succ,Nat.mul_comm])
     obtain ⟨P,hP⟩:∃P,10 ^ j=P:=⟨_,rfl⟩
     rw [hP] at hc hP8 hP9 HGD HNUM HPS ⊢
     have HP:=Lib.hid hP
     clear hP
     have hw10:IntKind.u32.wrap (10*(c:Int))=((10*c:Nat):Int):=by rw [IntWalk.u32_in _ (by omega)];omega
     obtain ⟨hd1,hd2⟩:=hd
     have e1:(10*(c:Int)+((b:Int)-48))=((10*c+(b-48):Nat):Int):=by omega
     have e2:(P:Int)*10=((P*10:Nat):Int):=by omega
     have E1:=Lib.hid e1
     have E2:=Lib.hid e2
     clear e1 e2
     by_cases hflush:j=8∨k+1=l.length
     ·have hfl:((P:Int)*10 == 1000000000)=true∨(((P:Int)*10 == 1000000000)=false∧((k:Int) == (l.length:Int)-1)=true):=by
       by_cases h8:P*10=1000000000
       ·exact .inl (by rw [beq_iff_eq];omega)
       ·exact .inr ⟨by rw [beq_eq_false_iff_ne];omega,by rw [beq_iff_eq];omega⟩
      have HPR:=Lib.hid (psmall_any wr _ (limbs a) (P*10) (10*c+(b-48)) hown.arr (by omega) (by omega) (by omega))
      clear hP9
      have HK:=Lib.hid hflush
      clear hflush
      have hnew:numOf (l.take (k+1))=a*(P*10)+(10*c+(b-48)):=by rw [HNT.out,HGD.out,Nat.mul_comm P 10]
      have hlt10:=take_all_lt HT1.out (show k+1≤l.length by omega)
      have HNEW:=Lib.hid hnew
      have HLT10:=Lib.hid hlt10
      clear hnew hlt10
      rcases hfl with hfl|⟨hfl1,hfl2⟩
      all_goals
       go_wp2_with fail
       rw [E1.out,E2.out]
       refine HPR.out.mono ?_
       rintro e w1 ⟨v1,rfl,ho1,hx1⟩
       rw [val_limbs,←HNEW.out] at ho1
       go_wp2_with fail
       go_roundw
       case rel=>exact ⟨k+1,0,0,by omega,by omega,by omega,fun _=>rfl,by go_num,rfl,rfl,HT1.out,_,ho1.mono hext.size,by simp,HLT10.out,hext.trans hx1⟩
       case measure=>simp [intOf];omega
     ·have hfl1:((P:Int)*10 == 1000000000)=false:=by rw [beq_eq_false_iff_ne];omega
      have hfl2:((k:Int) == (l.length:Int)-1)=false:=by rw [beq_eq_false_iff_ne];omega
      have hlt10:=take_all_lt HT1.out (show k+1≤l.length by omega)
      have HLT10:=Lib.hid hlt10
      have hakk:a<10 ^ (k+1):=Nat.lt_of_lt_of_le HA10.out (Nat.pow_le_pow_right (by omega) (by omega))
      have HAKK:=Lib.hid hakk
      have HNF:=Lib.hid hflush
      clear hP9 hlt10 hakk hflush
      go_wp2_with fail
      go_roundw
      case rel=>
       refine ⟨k+1,j+1,10*c+(b-48),by omega,by have:=HNF.out;omega,by rw [HPS.out];omega,fun he=>absurd (Or.inr he) HNF.out,by go_num,by rw [E1.out],?_,HT1.out,a,hown,by rw [HNT.out,HGD.out,HPS.out],HAKK.out,hext⟩
       rw [HPS.out,Nat.mul_comm 10 P,E2.out]
      case measure=>simp [intOf];omega
    ·have hbad:isDig l[k]=false:=by
      rw [←Bool.not_eq_true]
      exact fun ht=>hd (HDIG.out.1 ht)
     have HBAD:=Lib.hid (HAF.out hbad)
     obtain ⟨a,hown,hnum0,hak0,hext⟩:=hN
     clear hnum0 hak0 hown
     have hor:b<48∨57<b:=by omega
     clear hbad hc hkl hall hd hj hk
     generalize 10 ^ j=P at *
     rcases hor with hlo|hlo
     all_goals
      go_wp2_with fail
      go_ret2
      rw [HR2.out HBAD.out]
      exact ⟨_,rfl,Own.none_ _ _,hext⟩
   ·obtain rfl:k=l.length:=by omega
    obtain ⟨a,hown,hnum,_,hext⟩:=hN
    have hj0:=hkl rfl
    subst hj0
    rw [List.take_of_length_le (Nat.le_refl _)] at hnum hall
    have hc0:c=0:=by simpa using hc
    subst hc0
    have hna:numOf l=a:=by simpa using hnum
    have HNA:=Lib.hid hna
    have HALL:=Lib.hid hall
    clear hnum hna hall hc hkl
    go_wp2_with fail
    go_ret2
    rw [HR1.out HALL.out,HNA.out]
    exact ⟨_,rfl,hown,hext⟩
theorem natural_any (w:World) (l:List UInt8):Calls Tryz.prog 95 #[str l] w (NatRes w (natural l)):=by
 unfold natural
 by_cases h1:20001<l.length
 ·rw [if_pos h1]
  refine (natural_long w l h1).mono ?_
  rintro e w' ⟨rfl,rfl⟩
  exact ⟨_,rfl,Own.none_ _ _,Ext.refl _⟩
 ·rw [if_neg h1]
  by_cases h2:l=[]
  ·subst h2
   rw [if_pos rfl]
   refine (natural_empty w).mono ?_
   rintro e w' ⟨rfl,rfl⟩
   exact ⟨_,rfl,Own.none_ _ _,Ext.refl _⟩
  ·rw [if_neg h2]
   have hl0:0<l.length:=by cases l<;>simp_all
   have hb:byteAt l 0=48↔l[0]? =some 48:=by
    rw [byteAt_eq l 0 hl0,List.getElem?_eq_getElem hl0]
    constructor
    ·intro h;exact congrArg some (UInt8.toNat_inj.1 h)
    ·intro h;injection h with h;rw [h];rfl
   by_cases h3:l[0]? =some 48∧1<l.length
   ·rw [if_pos h3]
    refine (natural_zero w l (hb.2 h3.1) h3.2 (by omega)).mono ?_
    rintro e w' ⟨rfl,rfl⟩
    exact ⟨_,rfl,Own.none_ _ _,Ext.refl _⟩
   ·rw [if_neg h3]
    exact natural_some w l h2 (fun h=>h3 ⟨hb.1 h.1,h.2⟩) (by omega) _ (fun h=>if_pos h) (fun h=>if_neg (by rw [h];decide))
end Big
end Go.Proofs.YtaccjdbbkmhanaaGreatDoor
namespace Go.Proofs.YtaccjdbbkmhanaaGreatDoor
namespace Big
open Go.RowKit
set_option maxRecDepth 100000 in
theorem parse7_long (w:World) (l:List UInt8) (h:400<l.length):Calls Tryz.prog 77 #[str l] w (ParseRes7 w l):=by
 have hc:code7 l=7:=if_pos h
 have h':(400:Int)<(l.length:Int):=by omega
 have HC:=Lib.hid hc
 clear h hc
 go_enter Tryz.func77,Tryz.ntmps77
 go_wp2_with fail
 obtain ⟨hr0,hr1,hr2⟩:=three_set (Blk.new w 117 #[Value.bool false,Value.slice none 0 0,Value.slice none 0 0]) (.bool false) (.slice none 0 0) (.slice none 0 0)
 refine bodyPost_ret (v:= .tuple #[.agg #[.bool false,.slice none 0 0,.slice none 0 0],.int .i64 7]) (by simp [results,Tryz.results77,go_sem]) rfl ?_
 exact ⟨_,by rw [HC.out];rfl,by rw [HC.out];exact IsRat.zero _ _,(Ext.refl w).alloc _⟩
set_option maxHeartbeats 1000000 in
set_option maxRecDepth 100000 in
theorem parse7_any (w:World) (l:List UInt8) (hm:MaxV w):Calls Tryz.prog 77 #[str l] w (ParseRes7 w l):=by
 rcases Nat.lt_or_ge 400 l.length with hl|hl
 ·exact parse7_long w l hl
 have HCUT:=Lib.hid (fun W hx=>cut_any W l (by omega) (hm.ext hx))
 have hpl:(part l).length≤l.length:=by
  rcases dot_split l with ⟨_,h1⟩|⟨_,_,h2⟩
  ·have:=congrArg List.length h1
   simp at this
   omega
  ·rw [h2];simp
 have hwl:=whole_le l
 have HMISS:=Lib.hid (bad7_miss (l:=l))
 have HHIT:=Lib.hid (bad7_hit (l:=l))
 have hcode:code7 l=if bad7 l then 6 else if (whole l++part l).all isDig then 0 else 6:=by
  unfold code7 good7
  rw [if_neg (by omega)]
  cases bad7 l<;>cases (whole l++part l).all isDig<;>rfl
 have HCODE:=Lib.hid hcode
 have hnum:num7 l=lowN (numOf (whole l++part l)) (10 ^ (part l).length):=rfl
 have hden:den7 l=lowD (numOf (whole l++part l)) (10 ^ (part l).length):=rfl
 have HNUM:=Lib.hid hnum
 have HDEN:=Lib.hid hden
 have h400:¬(400:Int)<(l.length:Int):=by omega
 clear hm hcode hnum hden
 generalize whole l=W at *
 generalize part l=P at *
 generalize hasDot l=D at *
 generalize bad7 l=bad at *
 go_enter Tryz.func77,Tryz.ntmps77
 go_wp2_with fail
 refine (HCUT.out _ ((Ext.refl w).alloc _)).mono ?_
 rintro e w1 ⟨rfl,hx1⟩
 have HX1:=Lib.hid (((Ext.refl w).alloc (.cells #[Value.bool false,Value.slice none 0 0,Value.slice none 0 0] 117)).trans hx1)
 have HB1:=Lib.hid ((Blk.new w 117 #[Value.bool false,Value.slice none 0 0,Value.slice none 0 0]).ext hx1)
 clear hx1
 go_upto_region 4 with fail
 go_cut [46] from 20 to 46 (fun s46 wx=>s46= .bool bad∧wx=w1)
 case first=>
  clear HCUT
  cases D
  ·have HF:Hid ((false && ((P == []) || (P.getLast? == some 48)))=false):=Lib.hid rfl
   have HB0:=Lib.hid (HMISS.out HF.out)
   rcases Nat.eq_zero_or_pos W.length with hw0|hw0
   ·obtain rfl:W=[]:=List.eq_nil_of_length_eq_zero hw0
    have HBD:Hid (bad=true):=Lib.hid (by rw [HB0.out];rfl)
    have hwe:(([]:List UInt8) == [])=true:=rfl
    clear hw0
    go_wp2_with fail
    go_meet
    exact ⟨by rw [HBD.out],rfl⟩
   ·have hwe:(W == [])=false:=by cases W<;>simp_all
    obtain ⟨kw,hwl⟩:∃k,W.length=k+1:=⟨W.length-1,by omega⟩
    have hwp:(0:Int)<(W.length:Int):=by omega
    have hfb:=first_byte W kw hwl
    rw [hfb,hwe] at HB0
    clear hw0 hfb
    cases hz:((byteAt W 0:Int) == 48)
    ·have HBD:Hid (bad=false):=Lib.hid (by rw [HB0.out,hz];rfl)
     clear hwl
     go_wp2_with fail
     go_meet
     exact ⟨by rw [HBD.out],rfl⟩
    ·by_cases hl1:1<W.length
     ·have HBD:Hid (bad=true):=Lib.hid (by rw [HB0.out,hz];simp [hl1])
      have hd1:(1:Int)<(W.length:Int):=by omega
      have hd2:decide ((1:Int)<(W.length:Int))=true:=by rw [decide_eq_true_iff];omega
      clear hwl
      go_wp2_with fail
      go_meet
      exact ⟨by rw [HBD.out],rfl⟩
     ·have HBD:Hid (bad=false):=Lib.hid (by rw [HB0.out,hz];simp [hl1])
      have hd1:¬(1:Int)<(W.length:Int):=by omega
      have hd2:decide ((1:Int)<(W.length:Int))=false:=by simp;omega
      clear hwl
      go_wp2_with fail
      go_meet
      exact ⟨by rw [HBD.out],rfl⟩
  ·rcases Nat.eq_zero_or_pos P.length with hp0|hp0
   ·obtain rfl:P=[]:=List.eq_nil_of_length_eq_zero hp0
    have HBD:Hid (bad=true):=Lib.hid (HHIT.out rfl)
    have hpe:(([]:List UInt8) == [])=true:=rfl
    clear hp0
    go_wp2_with fail
    go_meet
    exact ⟨by rw [HBD.out],rfl⟩
   ·have hpe:(P == [])=false:=by cases P<;>simp_all
    obtain ⟨k,hpl1⟩:∃k,P.length=k+1:=⟨P.length-1,by omega⟩
    have hlb:=last_byte P k hpl1
    have hsub:(P.length:Int)-1=(k:Int):=by omega
    clear hp0
    have hkp:(k:Int)<(P.length:Int):=by omega
    cases hz1:((byteAt P k:Int) == 48)
    ·have HF:Hid ((true && ((P == []) || (P.getLast? == some 48)))=false):=Lib.hid (by rw [hlb,hpe,hz1];rfl)
     clear hlb hpl1
     have HB0:=Lib.hid (HMISS.out HF.out)
     rcases Nat.eq_zero_or_pos W.length with hw0|hw0
     ·obtain rfl:W=[]:=List.eq_nil_of_length_eq_zero hw0
      have HBD:Hid (bad=true):=Lib.hid (by rw [HB0.out];rfl)
      have hwe:(([]:List UInt8) == [])=true:=rfl
      clear hw0
      go_wp2_with fail
      go_meet
      exact ⟨by rw [HBD.out],rfl⟩
     ·have hwe:(W == [])=false:=by cases W<;>simp_all
      obtain ⟨kw,hwl⟩:∃k,W.length=k+1:=⟨W.length-1,by omega⟩
      have hwp:(0:Int)<(W.length:Int):=by omega
      have hfb:=first_byte W kw hwl
      rw [hfb,hwe] at HB0
      clear hw0 hfb
      cases hz:((byteAt W 0:Int) == 48)
      ·have HBD:Hid (bad=false):=Lib.hid (by rw [HB0.out,hz];rfl)
       clear hwl
       go_wp2_with fail
       go_meet
       exact ⟨by rw [HBD.out],rfl⟩
      ·by_cases hl1:1<W.length
       ·have HBD:Hid (bad=true):=Lib.hid (by rw [HB0.out,hz];simp [hl1])
        have hd1:(1:Int)<(W.length:Int):=by omega
        have hd2:decide ((1:Int)<(W.length:Int))=true:=by rw [decide_eq_true_iff];omega
        clear hwl
        go_wp2_with fail
        go_meet
        exact ⟨by rw [HBD.out],rfl⟩
       ·have HBD:Hid (bad=false):=Lib.hid (by rw [HB0.out,hz];simp [hl1])
        have hd1:¬(1:Int)<(W.length:Int):=by omega
        have hd2:decide ((1:Int)<(W.length:Int))=false:=by simp;omega
        clear hwl
        go_wp2_with fail
        go_meet
        exact ⟨by rw [HBD.out],rfl⟩
    ·have HBD:Hid (bad=true):=Lib.hid (HHIT.out (by rw [hlb,hz1];simp))
     clear hlb hpl1
     go_wp2_with fail
     go_meet
     exact ⟨by rw [HBD.out],rfl⟩
 case rest=>
  obtain ⟨rfl,rfl⟩:=hcut
  clear HMISS HHIT HCUT
  obtain ⟨k0,k1,k2,f0,f1,f2,hgz⟩:=HB1.out.three
  cases bad
  ·have hcode:=HCODE.out
   simp only [Bool.false_eq_true,if_false] at hcode
   have hadd:∀W',(binOp .add 9 (str W) (str P)).run Tryz.prog W'= .ok (str (W++P)) W':=run_add_str W P (by omega)
   have hL:(W++P).length≤800:=by rw [List.length_append];omega
   have HTZ:=Lib.hid (fun W'=>trimZ_any W' (W++P))
   have HNAT:=Lib.hid (fun W'=>natural_any W' (digs7 (W++P)))
   rw [digs7_natural _ hL] at HNAT
   have HTD:=Lib.hid (fun W'=>trimD_any W' (W++P) (by omega))
   have HNL:=Lib.hid (numOf_lt (W++P))
   have hdig:digs7 (W++P)=if (W++P).dropWhile (· == 48)=[] then [48] else (W++P).dropWhile (· == 48):=rfl
   have HDIG:=Lib.hid hdig
   clear hdig HCODE
   generalize W++P=L at *
   generalize hZ:L.dropWhile (· == 48)=Z at *
   have HZ:=Lib.hid hZ
   clear hZ
   cases hall:L.all isDig
   ·have HNA:Hid (∀W',Calls Tryz.prog 95 #[str (digs7 L)] W' (NatRes W' (0,6))):=Lib.hid (fun W'=>by
     have:=HNAT.out W'
     rwa [hall] at this)
    rw [hall] at hcode
    have HC:Hid (code7 l=6):=Lib.hid hcode
    clear hall hcode HNAT
    rcases Nat.eq_zero_or_pos Z.length with hz0|hz0
    ·obtain rfl:Z=[]:=List.eq_nil_of_length_eq_zero hz0
     have hze:(([]:List UInt8) == [])=true:=rfl
     rw [HDIG.out,if_pos rfl] at HNA
     clear hz0
     go_wp2_with fail
     refine (HTZ.out _).mono ?_
     rintro e w2 ⟨rfl,rfl⟩
     go_wp2_with fail
     refine (HNA.out _).mono ?_
     rintro e w3 ⟨v3,rfl,ho3,hx3⟩
     obtain ⟨n3,A3,c3,rfl⟩:=ho3.shape
     have hk:=HB1.out.ext hx3
     have HX3:=Lib.hid (HX1.out.trans hx3)
     have HB3:=Lib.hid hk
     clear ho3 hx3 k0 k1 k2 f0 f1 f2 hgz
     obtain ⟨k0,k1,k2,f0,f1,f2,hgz⟩:=hk.three
     clear hk
     go_wp2_with fail
     obtain ⟨hr0,hr1,hr2⟩:=three_set HB3.out (.bool false) (.slice none 0 0) (.slice none 0 0)
     refine bodyPost_ret (v:= .tuple #[.agg #[.bool false,.slice none 0 0,.slice none 0 0],.int .i64 6]) (by simp [results,Tryz.results77,go_sem,hr0,hr1,hr2]) rfl ?_
     exact ⟨_,by rw [HC.out];rfl,by rw [HC.out];exact IsRat.zero _ _,((HX3.out.setCell (Nat.le_refl _) _).setCell (Nat.le_refl _) _).setCell (Nat.le_refl _) _⟩
    ·have hze:(Z == [])=false:=by cases Z<;>simp_all
     have hzn:Z≠[]:=by cases Z<;>simp_all
     rw [HDIG.out,if_neg hzn] at HNA
     clear hz0 hzn
     go_wp2_with fail
     refine (HTZ.out _).mono ?_
     rintro e w2 ⟨rfl,rfl⟩
     go_wp2_with fail
     refine (HNA.out _).mono ?_
     rintro e w3 ⟨v3,rfl,ho3,hx3⟩
     obtain ⟨n3,A3,c3,rfl⟩:=ho3.shape
     have hk:=HB1.out.ext hx3
     have HX3:=Lib.hid (HX1.out.trans hx3)
     have HB3:=Lib.hid hk
     clear ho3 hx3 k0 k1 k2 f0 f1 f2 hgz
     obtain ⟨k0,k1,k2,f0,f1,f2,hgz⟩:=hk.three
     clear hk
     go_wp2_with fail
     obtain ⟨hr0,hr1,hr2⟩:=three_set HB3.out (.bool false) (.slice none 0 0) (.slice none 0 0)
     refine bodyPost_ret (v:= .tuple #[.agg #[.bool false,.slice none 0 0,.slice none 0 0],.int .i64 6]) (by simp [results,Tryz.results77,go_sem,hr0,hr1,hr2]) rfl ?_
     exact ⟨_,by rw [HC.out];rfl,by rw [HC.out];exact IsRat.zero _ _,((HX3.out.setCell (Nat.le_refl _) _).setCell (Nat.le_refl _) _).setCell (Nat.le_refl _) _⟩
   ·have HNA:Hid (∀W',Calls Tryz.prog 95 #[str (digs7 L)] W' (NatRes W' (numOf L,0))):=Lib.hid (fun W'=>by
     have:=HNAT.out W'
     rwa [hall] at this)
    rw [hall] at hcode
    have HC:Hid (code7 l=0):=Lib.hid hcode
    have HTDD:=Lib.hid (fun W'=>HTD.out W' hall)
    have hnl:(limbs (numOf L)).length≤800:=limbs_dec (HNL.out hall) hL
    have HIN:=Lib.hid (fun W' m a=>inat_any W' false m (limbs (numOf L)) a (by omega))
    rw [val_limbs] at HIN
    have hsg:sgn false (numOf L)=((numOf L:Nat):Int):=rfl
    rw [hsg] at HIN
    have HOF:=Lib.hid (fun W'=>of_any W' 1 (by decide))
    rw [show ((1:Nat):Int)=1 from rfl] at HOF
    have hpm:P.length≤400:=by omega
    have HSC:=Lib.hid (fun W' m a=>scaled_10 W' m (limbs 1) P.length a (by decide) (by omega))
    have HL1:Hid ((limbs 1).length≤10∧P.length≤400):=Lib.hid ⟨by decide,hpm⟩
    have HLO:Hid (∀W' a b zs,ArrInt W' a ((numOf L:Nat):Int)→Arr W' b zs→zs.length≤134217728→val zs=val (limbs 1)*10 ^ P.length→Calls Tryz.prog 97 #[a,b] W' fun e w'=>∃v',e= .returned v'∧IsRat W'.heap.size w' v' (lowN ((numOf L:Nat):Int) (10 ^ P.length)) (lowD ((numOf L:Nat):Int) (10 ^ P.length))∧Ext W' w'):=Lib.hid (fun W' a b zs h1 h2 h3 h4=>by
     have:=lowestR_any W' a b _ zs h1 h2 (by rw [Int.natAbs_natCast];omega) h3 (by rw [h4,val_limbs,Nat.one_mul];exact Nat.ne_of_gt (Nat.pow_pos (by decide)))
     rwa [h4,val_limbs,Nat.one_mul] at this)
    clear hall hcode HNAT hnl hsg hpm
    rcases Nat.eq_zero_or_pos Z.length with hz0|hz0
    ·obtain rfl:Z=[]:=List.eq_nil_of_length_eq_zero hz0
     have hze:(([]:List UInt8) == [])=true:=rfl
     rw [HDIG.out,if_pos rfl] at HNA
     clear hz0
     go_wp2_with fail
     refine (HTZ.out _).mono ?_
     rintro e w2 ⟨rfl,rfl⟩
     go_wp2_with fail
     refine (HNA.out _).mono ?_
     rintro e w3 ⟨v3,rfl,ho3,hx3⟩
     have HO3:=Lib.hid ho3
     obtain ⟨n3,A3,c3,rfl⟩:=ho3.shape
     have HX3:=Lib.hid (HX1.out.trans hx3)
     have HB3:=Lib.hid (HB1.out.ext hx3)
     clear ho3 hx3 k0 k1 k2 f0 f1 f2 hgz
     go_wp2_with fail
     refine (HTDD.out _).mono ?_
     rintro e w4 ⟨rfl,hx4⟩
     have HO4:=Lib.hid (HO3.out.ext hx4)
     have HX4:=Lib.hid (HX3.out.trans hx4)
     have HB4:=Lib.hid (HB3.out.ext hx4)
     clear hx4
     have hle:(([]:List UInt8) == [])=true:=rfl
     go_wp2_with fail
     refine (HIN.out _ _ HO4.out.arr).mono ?_
     rintro e w5 ⟨v5,rfl,hi5,hx5⟩
     have HI5:=Lib.hid hi5
     obtain ⟨b5,n5,A5,c5,rfl⟩:=hi5.shape
     have HX5:=Lib.hid (HX4.out.trans hx5)
     have HB5:=Lib.hid (HB4.out.ext hx5)
     clear hi5 hx5
     go_wp2_with fail
     refine (HOF.out _).mono ?_
     rintro e w6 ⟨v6,rfl,ho6,hx6⟩
     have HO6:=Lib.hid ho6
     obtain ⟨n6,A6,c6,rfl⟩:=ho6.shape
     have HI6:=Lib.hid (HI5.out.ext hx6)
     have HX6:=Lib.hid (HX5.out.trans hx6)
     have HB6:=Lib.hid (HB5.out.ext hx6)
     clear ho6 hx6
     go_wp2_with fail
     refine (HSC.out _ _ HO6.out.arr).mono ?_
     rintro e w7 ⟨v7,zs,rfl,ha7,hv7,hl7,hx7⟩
     obtain ⟨n7,A7,c7,rfl⟩:=ha7.shape
     have HI7:=Lib.hid (HI6.out.ext hx7).arr
     have HX7:=Lib.hid (HX6.out.trans hx7)
     have HB7:=Lib.hid (HB6.out.ext hx7)
     have HV7:=Lib.hid hv7
     have HL7:=Lib.hid (HLO.out w7 _ _ zs HI7.out ha7 (by have:=HL1.out;omega) hv7)
     clear ha7 hv7 hx7 hl7
     go_wp2_with fail
     refine HL7.out.mono ?_
     rintro e w8 ⟨v8,rfl,hr8,hx8⟩
     obtain ⟨b8,n8,A8,c8,n8',A8',c8',rfl⟩:=hr8.shape
     have HR8:=Lib.hid hr8
     have HX8:=Lib.hid (HX7.out.trans hx8)
     have hk:=HB7.out.ext hx8
     have HB8:=Lib.hid hk
     have HSZ7:=Lib.hid HX7.out.size
     have HLT7:=Lib.hid HB7.out.lt
     clear hr8 hx8
     obtain ⟨k0,k1,k2,f0,f1,f2,hgz⟩:=hk.three
     clear hk
     go_wp2_with fail
     obtain ⟨hr0,hr1,hr2⟩:=three_set HB8.out (.bool b8) (.slice A8 n8 c8) (.slice A8' n8' c8')
     refine bodyPost_ret (v:= .tuple #[.agg #[.bool b8,.slice A8 n8 c8,.slice A8' n8' c8'],.int .i64 0]) (by simp [results,Tryz.results77,go_sem,hr0,hr1,hr2]) rfl ?_
     have hfin:=HR8.out.put (w:=w) HLT7.out HSZ7.out
     exact ⟨_,by rw [HC.out];rfl,by rw [HC.out,if_pos rfl,if_pos rfl,HNUM.out,HDEN.out];exact hfin,((HX8.out.setCell (Nat.le_refl _) _).setCell (Nat.le_refl _) _).setCell (Nat.le_refl _) _⟩
    ·have hze:(Z == [])=false:=by cases Z<;>simp_all
     have hzn:Z≠[]:=by cases Z<;>simp_all
     rw [HDIG.out,if_neg hzn] at HNA
     clear hz0 hzn
     go_wp2_with fail
     refine (HTZ.out _).mono ?_
     rintro e w2 ⟨rfl,rfl⟩
     go_wp2_with fail
     refine (HNA.out _).mono ?_
     rintro e w3 ⟨v3,rfl,ho3,hx3⟩
     have HO3:=Lib.hid ho3
     obtain ⟨n3,A3,c3,rfl⟩:=ho3.shape
     have HX3:=Lib.hid (HX1.out.trans hx3)
     have HB3:=Lib.hid (HB1.out.ext hx3)
     clear ho3 hx3 k0 k1 k2 f0 f1 f2 hgz
     go_wp2_with fail
     refine (HTDD.out _).mono ?_
     rintro e w4 ⟨rfl,hx4⟩
     have HO4:=Lib.hid (HO3.out.ext hx4)
     have HX4:=Lib.hid (HX3.out.trans hx4)
     have HB4:=Lib.hid (HB3.out.ext hx4)
     clear hx4
     have hle:(([]:List UInt8) == [])=true:=rfl
     go_wp2_with fail
     refine (HIN.out _ _ HO4.out.arr).mono ?_
     rintro e w5 ⟨v5,rfl,hi5,hx5⟩
     have HI5:=Lib.hid hi5
     obtain ⟨b5,n5,A5,c5,rfl⟩:=hi5.shape
     have HX5:=Lib.hid (HX4.out.trans hx5)
     have HB5:=Lib.hid (HB4.out.ext hx5)
     clear hi5 hx5
     go_wp2_with fail
     refine (HOF.out _).mono ?_
     rintro e w6 ⟨v6,rfl,ho6,hx6⟩
     have HO6:=Lib.hid ho6
     obtain ⟨n6,A6,c6,rfl⟩:=ho6.shape
     have HI6:=Lib.hid (HI5.out.ext hx6)
     have HX6:=Lib.hid (HX5.out.trans hx6)
     have HB6:=Lib.hid (HB5.out.ext hx6)
     clear ho6 hx6
     go_wp2_with fail
     refine (HSC.out _ _ HO6.out.arr).mono ?_
     rintro e w7 ⟨v7,zs,rfl,ha7,hv7,hl7,hx7⟩
     obtain ⟨n7,A7,c7,rfl⟩:=ha7.shape
     have HI7:=Lib.hid (HI6.out.ext hx7).arr
     have HX7:=Lib.hid (HX6.out.trans hx7)
     have HB7:=Lib.hid (HB6.out.ext hx7)
     have HV7:=Lib.hid hv7
     have HL7:=Lib.hid (HLO.out w7 _ _ zs HI7.out ha7 (by have:=HL1.out;omega) hv7)
     clear ha7 hv7 hx7 hl7
     go_wp2_with fail
     refine HL7.out.mono ?_
     rintro e w8 ⟨v8,rfl,hr8,hx8⟩
     obtain ⟨b8,n8,A8,c8,n8',A8',c8',rfl⟩:=hr8.shape
     have HR8:=Lib.hid hr8
     have HX8:=Lib.hid (HX7.out.trans hx8)
     have hk:=HB7.out.ext hx8
     have HB8:=Lib.hid hk
     have HSZ7:=Lib.hid HX7.out.size
     have HLT7:=Lib.hid HB7.out.lt
     clear hr8 hx8
     obtain ⟨k0,k1,k2,f0,f1,f2,hgz⟩:=hk.three
     clear hk
     go_wp2_with fail
     obtain ⟨hr0,hr1,hr2⟩:=three_set HB8.out (.bool b8) (.slice A8 n8 c8) (.slice A8' n8' c8')
     refine bodyPost_ret (v:= .tuple #[.agg #[.bool b8,.slice A8 n8 c8,.slice A8' n8' c8'],.int .i64 0]) (by simp [results,Tryz.results77,go_sem,hr0,hr1,hr2]) rfl ?_
     have hfin:=HR8.out.put (w:=w) HLT7.out HSZ7.out
     exact ⟨_,by rw [HC.out];rfl,by rw [HC.out,if_pos rfl,if_pos rfl,HNUM.out,HDEN.out];exact hfin,((HX8.out.setCell (Nat.le_refl _) _).setCell (Nat.le_refl _) _).setCell (Nat.le_refl _) _⟩
  ·have HC:Hid (code7 l=6):=Lib.hid HCODE.out
   clear HCODE
   go_wp2_with fail
   obtain ⟨hr0,hr1,hr2⟩:=three_set HB1.out (.bool false) (.slice none 0 0) (.slice none 0 0)
   refine bodyPost_ret (v:= .tuple #[.agg #[.bool false,.slice none 0 0,.slice none 0 0],.int .i64 6]) (by simp [results,Tryz.results77,go_sem,hr0,hr1,hr2]) rfl ?_
   exact ⟨_,by rw [HC.out];rfl,by rw [HC.out];exact IsRat.zero _ _,((HX1.out.setCell (Nat.le_refl _) _).setCell (Nat.le_refl _) _).setCell (Nat.le_refl _) _⟩
end Big
end Go.Proofs.YtaccjdbbkmhanaaGreatDoor
namespace Go.Proofs.YtaccjdbbkmhanaaGreatDoor
namespace Big
open Go.RowKit
theorem Dr.below {w w':World} (h:Dr w w') (B:Nat):Below B w w':=by
 have h1:=h.grown none
 exact ⟨h1.os,h1.tape,h1.output,h1.size,fun g _=>by rw [h.heap]⟩
theorem Ext.below {w w':World} (h:Ext w w') {B:Nat} (hB:B≤w.heap.size):Below B w w':=Below.mono h hB
end Big
end Go.Proofs.YtaccjdbbkmhanaaGreatDoor
namespace Go.Proofs.YtaccjdbbkmhanaaGreatDoor
namespace Big
open Go.RowKit
end Big
end Go.Proofs.YtaccjdbbkmhanaaGreatDoor
