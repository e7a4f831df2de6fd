import Derived.Test.YtkoaogkknnelaaaGreatDoorM13
set_option linter.unusedVariables false
set_option linter.unusedSimpArgs false
set_option maxRecDepth 100000
namespace Go.Proofs.YtkoaogkknnelaaaGreatDoor
namespace Big
open Lib renaming hid → J
open Go.RowKit
def Bz:List (List UInt8):=[[112,105],[101],[115,113,114,116],[101,120,112],[108,110],[115,105,110],[99,111,115],[97,116,97,110]]
def Br(l:List UInt8):Nat:=if l=[115,113,114,116] then 11 else if l=[101,120,112] then 12 else if l=[108,110] then 13 else if l=[115,105,110] then 14 else if l=[99,111,115] then 15 else if l=[97,116,97,110] then 16 else 0
def Bb(l:List UInt8):Bool:=l == [112,105] || l == [101] || Br l != 0
theorem LM(w:World)(l:List UInt8):Calls Tryz.prog 152 #[str l] w fun e w'=>e= .returned (.int .i64 (Br l:Int))/\w=w':=by
 have H:Hid (Br l=if l=[115,113,114,116] then 11 else if l=[101,120,112] then 12 else if l=[108,110] then 13 else if l=[115,105,110] then 14 else if l=[99,111,115] then 15 else if l=[97,116,97,110] then 16 else 0):=J rfl;by_cases h0:l=[115,113,114,116]
 ·have HR:Hid (Br l=11):=J (by rw[H.o,if_pos h0]);have b0:(l == [115,113,114,116])=true:=by rw[beq_iff_eq];exact h0
  clear H h0;go_enter Tryz.func152,Tryz.ntmps152;go_wp2_with fail;go_ret;rw[HR.o];exact⟨rfl,rfl⟩
 by_cases h1:l=[101,120,112]
 ·have HR:Hid (Br l=12):=J (by rw[H.o,if_neg h0,if_pos h1]);have b0:(l == [115,113,114,116])=false:=by rw[beq_eq_false_iff_ne];exact h0
  have b1:(l == [101,120,112])=true:=by rw[beq_iff_eq];exact h1
  clear H h0 h1;go_enter Tryz.func152,Tryz.ntmps152;go_wp2_with fail;go_ret;rw[HR.o];exact⟨rfl,rfl⟩
 by_cases h2:l=[108,110]
 ·have HR:Hid (Br l=13):=J (by rw[H.o,if_neg h0,if_neg h1,if_pos h2]);have b0:(l == [115,113,114,116])=false:=by rw[beq_eq_false_iff_ne];exact h0
  have b1:(l == [101,120,112])=false:=by rw[beq_eq_false_iff_ne];exact h1
  have b2:(l == [108,110])=true:=by rw[beq_iff_eq];exact h2
  clear H h0 h1 h2;go_enter Tryz.func152,Tryz.ntmps152;go_wp2_with fail;go_ret;rw[HR.o];exact⟨rfl,rfl⟩
 by_cases h3:l=[115,105,110]
 ·have HR:Hid (Br l=14):=J (by rw[H.o,if_neg h0,if_neg h1,if_neg h2,if_pos h3]);have b0:(l == [115,113,114,116])=false:=by rw[beq_eq_false_iff_ne];exact h0
  have b1:(l == [101,120,112])=false:=by rw[beq_eq_false_iff_ne];exact h1
  have b2:(l == [108,110])=false:=by rw[beq_eq_false_iff_ne];exact h2
  have b3:(l == [115,105,110])=true:=by rw[beq_iff_eq];exact h3
  clear H h0 h1 h2 h3;go_enter Tryz.func152,Tryz.ntmps152;go_wp2_with fail;go_ret;rw[HR.o];exact⟨rfl,rfl⟩
 by_cases h4:l=[99,111,115]
 ·have HR:Hid (Br l=15):=J (by rw[H.o,if_neg h0,if_neg h1,if_neg h2,if_neg h3,if_pos h4]);have b0:(l == [115,113,114,116])=false:=by rw[beq_eq_false_iff_ne];exact h0
  have b1:(l == [101,120,112])=false:=by rw[beq_eq_false_iff_ne];exact h1
  have b2:(l == [108,110])=false:=by rw[beq_eq_false_iff_ne];exact h2
  have b3:(l == [115,105,110])=false:=by rw[beq_eq_false_iff_ne];exact h3
  have b4:(l == [99,111,115])=true:=by rw[beq_iff_eq];exact h4
  clear H h0 h1 h2 h3 h4;go_enter Tryz.func152,Tryz.ntmps152;go_wp2_with fail;go_ret;rw[HR.o];exact⟨rfl,rfl⟩
 by_cases h5:l=[97,116,97,110]
 ·have HR:Hid (Br l=16):=J (by rw[H.o,if_neg h0,if_neg h1,if_neg h2,if_neg h3,if_neg h4,if_pos h5]);have b0:(l == [115,113,114,116])=false:=by rw[beq_eq_false_iff_ne];exact h0
  have b1:(l == [101,120,112])=false:=by rw[beq_eq_false_iff_ne];exact h1
  have b2:(l == [108,110])=false:=by rw[beq_eq_false_iff_ne];exact h2
  have b3:(l == [115,105,110])=false:=by rw[beq_eq_false_iff_ne];exact h3
  have b4:(l == [99,111,115])=false:=by rw[beq_eq_false_iff_ne];exact h4
  have b5:(l == [97,116,97,110])=true:=by rw[beq_iff_eq];exact h5
  clear H h0 h1 h2 h3 h4 h5;go_enter Tryz.func152,Tryz.ntmps152;go_wp2_with fail;go_ret;rw[HR.o];exact⟨rfl,rfl⟩
 have HR:Hid (Br l=0):=J (by rw[H.o,if_neg h0,if_neg h1,if_neg h2,if_neg h3,if_neg h4,if_neg h5]);have b0:(l == [115,113,114,116])=false:=by rw[beq_eq_false_iff_ne];exact h0
 have b1:(l == [101,120,112])=false:=by rw[beq_eq_false_iff_ne];exact h1
 have b2:(l == [108,110])=false:=by rw[beq_eq_false_iff_ne];exact h2
 have b3:(l == [115,105,110])=false:=by rw[beq_eq_false_iff_ne];exact h3
 have b4:(l == [99,111,115])=false:=by rw[beq_eq_false_iff_ne];exact h4
 have b5:(l == [97,116,97,110])=false:=by rw[beq_eq_false_iff_ne];exact h5
 clear H h0 h1 h2 h3 h4 h5;go_enter Tryz.func152,Tryz.ntmps152;go_wp2_with fail;go_ret;rw[HR.o];exact⟨rfl,rfl⟩
theorem Ff(w:World)(l:List UInt8):Calls Tryz.prog 95 #[str l] w fun e w'=>e= .returned (.bool (Bb l))/\w=w':=by
 have H:Hid (Bb l=(l == [112,105] || l == [101] || Br l != 0)):=J rfl;have HF:=J (fun W=>LM W l);cases b0:(l == [112,105])
 ·cases b1:(l == [101])
  ·have hk:((Br l:Int) != 0)=(Br l != 0):=by rw[Bool.eq_iff_iff];simp
   cases b2:(Br l != 0)
   all_goals
    rw[b2]at hk;rw[b0,b1,b2]at H;clear b2;go_enter Tryz.func95,Tryz.ntmps95;go_wp2_with fail;refine(HF.o _).mono ?_
    rintro e w1 ⟨rfl,rfl⟩;go_wp2_with fail;go_ret;rw[H.o];exact⟨rfl,rfl⟩
  ·rw[b0,b1]at H;go_enter Tryz.func95,Tryz.ntmps95;go_wp2_with fail;go_ret;rw[H.o];exact⟨rfl,rfl⟩
 ·rw[b0]at H;go_enter Tryz.func95,Tryz.ntmps95;go_wp2_with fail;go_ret;rw[H.o];exact⟨rfl,rfl⟩
theorem Kr(w:World):Calls Tryz.prog 197 #[] w fun e w'=>∃v,e= .returned v/\BP w.heap.size w' v Bz/\Ext w w':=by
 go_enter Tryz.func197,Tryz.ntmps197;go_wp2_with fail;go_ret;exact⟨_,rfl,BP.block (ls:=Bz) (Blk.new w 9 _) (Nat.le_refl _) (by decide),(Ext.refl w).alloc _⟩
theorem B3(l:List UInt8):Bb l=Bz.contains l:=by
 have h:Bb l=(l == [112,105] || l == [101] || l == [115,113,114,116] || l == [101,120,112] || l == [108,110] || l == [115,105,110] || l == [99,111,115] || l == [97,116,97,110]):=by
  unfold Bb;by_cases h0:l=[115,113,114,116]
  ·subst h0;rfl
  by_cases h1:l=[101,120,112]
  ·subst h1;rfl
  by_cases h2:l=[108,110]
  ·subst h2;rfl
  by_cases h3:l=[115,105,110]
  ·subst h3;rfl
  by_cases h4:l=[99,111,115]
  ·subst h4;rfl
  by_cases h5:l=[97,116,97,110]
  ·subst h5;rfl
  unfold Br;rw[if_neg h0,if_neg h1,if_neg h2,if_neg h3,if_neg h4,if_neg h5];rw[beq_false_of_ne h0,beq_false_of_ne h1,beq_false_of_ne h2,beq_false_of_ne h3,beq_false_of_ne h4,beq_false_of_ne h5];simp only[Bool.or_false];simp
 rw[h,Bool.eq_iff_iff];unfold Bz;simp[or_assoc]
theorem RO(l:List UInt8)(j:Nat)(hj:j<Bz.length)(h1:1<j)(h:l=Bz[j]):Br l=11+j-2:=by
 subst h;have:j=2\/j=3\/j=4\/j=5\/j=6\/j=7:=by
  have:Bz.length=8:=rfl;omega
 rcases this with rfl|rfl|rfl|rfl|rfl|rfl<;>rfl
theorem Om(l:List UInt8)(h:∀j (hj:j<Bz.length),1<j->l≠Bz[j]):Br l=0:=by
 have h2:l≠[115,113,114,116]:=h 2 (by decide) (by decide);have h3:l≠[101,120,112]:=h 3 (by decide) (by decide);have h4:l≠[108,110]:=h 4 (by decide) (by decide);have h5:l≠[115,105,110]:=h 5 (by decide) (by decide);have h6:l≠[99,111,115]:=h 6 (by decide) (by decide);have h7:l≠[97,116,97,110]:=h 7 (by decide) (by decide);unfold Br;rw[if_neg h2,if_neg h3,if_neg h4,if_neg h5,if_neg h6,if_neg h7]
theorem Kg(w:World)(l:List UInt8):Calls Tryz.prog 156 #[str l] w fun e w'=>e= .returned (.bool (Bb l))/\Ext w w':=by
 have HW:=J (fun W=>Kr W);go_enter Tryz.func156,Tryz.ntmps156;go_wp2_with fail;refine(HW.o _).mono ?_
 rintro e w1 ⟨v1,rfl,ho,hx⟩;have HX:=J hx;obtain⟨A,c,rfl,hc,hm,ac⟩:=ho.arr.open;obtain⟨b,o,rfl,hb,ac⟩:=ac (by decide);have HC:=J ac;have dI:Bz.length=8:=rfl;have lS:=J dI;rw[dI]at hc ⊢;clear dI ho hx ac;unfold maxLen at hm;go_wp2_with fail
 go_loop [7] (fun s=>∃i:Nat,i<=8/\s= .int .i64 (i:Int)/\Hid (∀j (hj:j<Bz.length),j<i->l≠Bz[j])) (fun s=>8-(intOf s).toNat)
 case atStart=>exact⟨0,Nat.zero_le _,rfl,J (fun j hj h=>by omega)⟩
 case round=>
  obtain⟨i,hi,rfl,HN⟩:=hrel;by_cases hlt:i<8
  ·have vm:i<Bz.length:=by rw[lS.o];exact hlt
   have hx:=HC.o i vm;by_cases he:l=Bz[i]
   ·have HR:Hid (Bb l=true):=J (by rw[B3,List.contains_iff_mem,he];exact List.getElem_mem vm);generalize Bz[i]=m at *;have iq:(l == m)=true:=by rw[beq_iff_eq];exact he
    clear he;go_wp2_with fail;go_ret;rw[HR.o];exact⟨rfl,HX.o⟩
   ·have dM:Hid (∀j (hj:j<Bz.length),j<i+1->l≠Bz[j]):=J (fun j hj h=>by
     rcases Nat.lt_or_ge j i with h1|h1
     ·exact HN.o j hj h1
     ·obtain rfl:j=i:=by omega
      exact he)
    generalize Bz[i]=m at *;have iq:(l == m)=false:=by rw[beq_eq_false_iff_ne];exact he
    clear he;go_wp2_with fail
    go_round
    case rel=>exact⟨i+1,by omega,by go_num,dM⟩
    case measure=>simp[intOf];omega
  ·obtain rfl:i=8:=by omega
   have HR:Hid (Bb l=false):=J (by
    rw[B3,Bool.eq_false_iff];intro d7;rw[List.contains_iff_mem]at d7;obtain⟨j,hj,e⟩:=List.getElem_of_mem d7;exact HN.o j hj (by have:=lS.o;omega) e.symm)
   go_wp2_with fail;go_ret;rw[HR.o];exact⟨rfl,HX.o⟩
theorem Gt(w:World)(l:List UInt8):Calls Tryz.prog 267 #[str l] w fun e w'=>e= .returned (.int .i64 (Br l:Int))/\Ext w w':=by
 have HW:=J (fun W=>Kr W);go_enter Tryz.func267,Tryz.ntmps267;go_wp2_with fail;refine(HW.o _).mono ?_
 rintro e w1 ⟨v1,rfl,ho,hx⟩;have HX:=J hx;obtain⟨A,c,rfl,hc,hm,ac⟩:=ho.arr.open;obtain⟨b,o,rfl,hb,ac⟩:=ac (by decide);have HC:=J ac;have dI:Bz.length=8:=rfl;have lS:=J dI;rw[dI]at hc ⊢;clear dI ho hx ac;unfold maxLen at hm;go_wp2_with fail
 go_loop [7] (fun s=>∃i:Nat,i<=8/\s= .int .i64 (i:Int)/\Hid (∀j (hj:j<Bz.length),1<j->j<i->l≠Bz[j])) (fun s=>8-(intOf s).toNat)
 case atStart=>exact⟨0,Nat.zero_le _,rfl,J (fun j hj _ h=>by omega)⟩
 case round=>
  obtain⟨i,hi,rfl,HN⟩:=hrel;by_cases hlt:i<8
  ·have vm:i<Bz.length:=by rw[lS.o];exact hlt
   have hx:=HC.o i vm;have i5:=J (RO l i vm);have dM:Hid ((1<i->l≠Bz[i])->∀j (hj:j<Bz.length),1<j->j<i+1->l≠Bz[j]):=J (fun he j hj h0 h=>by
    rcases Nat.lt_or_ge j i with h1|h1
    ·exact HN.o j hj h0 h1
    ·obtain rfl:j=i:=by omega
     exact he h0)
   generalize Bz[i]=m at *;by_cases h1:1<i
   ·have Zt:(1:Int)<(i:Int):=by omega
    by_cases he:l=m
    ·have HR:=J (i5.o h1 he);have iq:(l == m)=true:=by rw[beq_iff_eq];exact he
     clear he;go_wp2_with fail;go_ret;exact⟨congrArg (fun z=>Ending.returned (.int .i64 z)) (by rw[HR.o];omega),HX.o⟩
    ·have sW:=J (dM.o (fun _=>he));have iq:(l == m)=false:=by rw[beq_eq_false_iff_ne];exact he
     clear he;go_wp2_with fail
     go_round
     case rel=>exact⟨i+1,by omega,by go_num,sW⟩
     case measure=>simp[intOf];omega
   ·have sW:=J (dM.o (fun h=>absurd h h1));have Zt:¬(1:Int)<(i:Int):=by omega
    go_wp2_with fail
    go_round
    case rel=>exact⟨i+1,by omega,by go_num,sW⟩
    case measure=>simp[intOf];omega
  ·obtain rfl:i=8:=by omega
   have HR:Hid (Br l=0):=J (Om l (fun j hj h0=>HN.o j hj h0 (by have:=lS.o;omega)));go_wp2_with fail;go_ret;rw[HR.o];exact⟨rfl,HX.o⟩
def Bk(l:List UInt8):Nat:=if Ev (Ac l 0) then Aj BN l else 0
def Ec(l:List UInt8)(i:Nat):Bool:=Ev (Ac l i) || (decide (0<i) && (Dz (Ac l i) || Ac l i == 95))
theorem GE{p:Nat->Bool}{l:List UInt8}(h:0<l.length)(hp:p (Ac l 0)=true):0<Aj p l:=by
 cases l with
 |nil=>simp at h
 |cons c t=>
  have hc:p c.toNat=true:=hp;rw[Aj,if_pos hc];omega
theorem KC{p:Nat->Bool}{l:List UInt8}{i:Nat}(h:i<Aj p l):p (Ac l i)=true:=by
 obtain⟨h1,h2⟩:=Hv p l i h;rw[Bu l i h1];exact h2
theorem Jh{p:Nat->Bool}{l:List UInt8}(h:Aj p l<l.length):p (Ac l (Aj p l))=false:=by
 rw[Bu l _ h];exact ND p l h
theorem NO(l:List UInt8):Bk l<=l.length:=by
 unfold Bk;split
 ·exact DH _ _
 ·exact Nat.zero_le _
theorem NP{l:List UInt8}{i:Nat}(hi:i<=Bk l)(hl:i<l.length):(Ec l i=true/\i<Bk l)\/(Ec l i=false/\i=Bk l):=by
 have hw:BN (Ac l i)=(Ev (Ac l i) || Dz (Ac l i) || Ac l i == 95):=rfl;unfold Bk at hi ⊢;cases h0:Ev (Ac l 0)
 ·rw[h0]at hi;simp only[Bool.false_eq_true,if_false]at hi ⊢;obtain rfl:i=0:=by omega
  exact .inr ⟨by unfold Ec;rw[h0];rfl,rfl⟩
 ·rw[h0]at hi;simp only[if_true]at hi ⊢;rcases Nat.eq_zero_or_pos i with hz|hz
  ·subst hz;exact .inl ⟨by unfold Ec;rw[h0];rfl,GE hl (by unfold BN;rw[h0];rfl)⟩
  ·have hg:Ec l i=BN (Ac l i):=by unfold Ec;rw[hw,decide_eq_true hz,Bool.true_and,Bool.or_assoc]
   rcases Nat.lt_or_ge i (Aj BN l) with h1|h1
   ·exact .inl ⟨by rw[hg];exact KC h1,h1⟩
   ·have:i=Aj BN l:=by omega
    subst this;exact .inr ⟨by rw[hg];exact Jh hl,rfl⟩
theorem Tm{l:List UInt8}{i:Nat}(hi:i<=Aj Ci l)(hl:i<l.length):(Ci (Ac l i)=true/\i<Aj Ci l)\/(Ci (Ac l i)=false/\i=Aj Ci l):=by
 rcases Nat.lt_or_ge i (Aj Ci l) with h1|h1
 ·exact .inl ⟨KC h1,h1⟩
 ·have:i=Aj Ci l:=by omega
  subst this;exact .inr ⟨Jh hl,rfl⟩
theorem S4(p:Nat->Bool)(l:List UInt8):l.all (fun c=>p c.toNat)=decide (Aj p l=l.length):=by
 induction l with
 |nil=>rfl
 |cons c t ih=>
  rw[List.all_cons,ih,Aj];cases hc:p c.toNat
  ·simp
  ·have:(Aj p t+1=(c::t).length)↔(Aj p t=t.length):=by simp
   simp
theorem Ks(l:List UInt8):CS l=(!(l == []) && (decide (l.length<=24) && decide (Bk l=l.length))):=by
 rcases Nat.eq_zero_or_pos l.length with h0|h0
 ·obtain rfl:l=[]:=List.eq_nil_of_length_eq_zero h0;rfl
 ·rw[LY,S4];unfold Bk;cases h1:Ev (Ac l 0)
  ·have:¬(0=l.length):=by omega
   simp[this]
  ·simp[Bool.and_assoc]
theorem Kz(w:World)(l:List UInt8)(hl:l.length<=1073741824):Calls Tryz.prog 123 #[str l] w fun e w'=>e= .returned (.int .i64 (Bk l:Int))/\w=w':=by
 have hle:=NO l;go_enter Tryz.func123,Tryz.ntmps123;go_wp2_with fail
 go_loop [3] (fun s=>∃i:Nat,i<=Bk l/\s= .int .i64 (i:Int)) (fun s=>l.length-(intOf s).toNat)
 case atStart=>exact⟨0,Nat.zero_le _,rfl⟩
 case round=>
  obtain⟨i,hi,rfl⟩:=hrel;by_cases hlt:i<l.length
  ·have dD:=J (NP hi hlt);have fh:=CM l i;have aW:=J (fun W=>Ir W (Ac l i) fh);have jy:=J (fun W=>GG W (Ac l i) fh);have we:(Ac l i == 95)=((Ac l i:Int) == 95):=by rw[Bool.eq_iff_iff];simp;omega
   have Xo:=J we;clear we;cases hlet:Ev (Ac l i)
   ·rcases Nat.eq_zero_or_pos i with hz|hz
    ·have HG:Hid (Ec l i=false):=J (by unfold Ec;rw[hlet,hz];rfl);have oS:¬(0:Int)<(i:Int):=by omega
     have no:decide ((0:Int)<(i:Int))=false:=by simp;omega
     rw[hlet]at aW;clear hlet hz;go_wp2_with fail;refine(aW.o _).mono ?_
     rintro e w1 ⟨rfl,rfl⟩;have HN:Hid (i=Bk l):=J (by
      rcases dD.o with ⟨h,_⟩|⟨_,h⟩
      ·rw[HG.o]at h;cases h
      ·exact h)
     go_wp2_with fail;go_ret;exact⟨by rw[<-HN.o];rfl,rfl⟩
    ·have oS:(0:Int)<(i:Int):=by omega
     have no:decide ((0:Int)<(i:Int))=true:=by rw[decide_eq_true_iff];omega
     cases hdig:Dz (Ac l i)
     ·cases h95:((Ac l i:Int) == 95)
      ·have HG:Hid (Ec l i=false):=J (by unfold Ec;rw[hlet,hdig,Xo.o,h95];simp);rw[hlet]at aW;rw[hdig]at jy;clear hlet hz hdig;go_wp2_with fail;refine(aW.o _).mono ?_
       rintro e w1 ⟨rfl,rfl⟩;go_wp2_with fail;refine(jy.o _).mono ?_
       rintro e w1 ⟨rfl,rfl⟩;have HN:Hid (i=Bk l):=J (by
        rcases dD.o with ⟨h,_⟩|⟨_,h⟩
        ·rw[HG.o]at h;cases h
        ·exact h)
       go_wp2_with fail;go_ret;exact⟨by rw[<-HN.o];rfl,rfl⟩
      ·have HG:Hid (Ec l i=true):=J (by unfold Ec;rw[hlet,hdig,Xo.o,h95];simp;omega);rw[hlet]at aW;rw[hdig]at jy;clear hlet hz hdig;go_wp2_with fail;refine(aW.o _).mono ?_
       rintro e w1 ⟨rfl,rfl⟩;go_wp2_with fail;refine(jy.o _).mono ?_
       rintro e w1 ⟨rfl,rfl⟩;have HN:Hid (i+1<=Bk l):=J (by
        rcases dD.o with ⟨_,h⟩|⟨h,_⟩
        ·exact h
        ·rw[HG.o]at h;cases h)
       go_wp2_with fail
       go_round
       case rel=>exact⟨i+1,HN.o,by go_num⟩
       case measure=>simp[intOf];omega
     ·have HG:Hid (Ec l i=true):=J (by unfold Ec;rw[hlet,hdig];simp;omega);rw[hlet]at aW;rw[hdig]at jy;clear hlet hz hdig;go_wp2_with fail;refine(aW.o _).mono ?_
      rintro e w1 ⟨rfl,rfl⟩;go_wp2_with fail;refine(jy.o _).mono ?_
      rintro e w1 ⟨rfl,rfl⟩;have HN:Hid (i+1<=Bk l):=J (by
       rcases dD.o with ⟨_,h⟩|⟨h,_⟩
       ·exact h
       ·rw[HG.o]at h;cases h)
      go_wp2_with fail
      go_round
      case rel=>exact⟨i+1,HN.o,by go_num⟩
      case measure=>simp[intOf];omega
   ·have HG:Hid (Ec l i=true):=J (by unfold Ec;rw[hlet];rfl);rw[hlet]at aW;clear hlet;go_wp2_with fail;refine(aW.o _).mono ?_
    rintro e w1 ⟨rfl,rfl⟩;have HN:Hid (i+1<=Bk l):=J (by
     rcases dD.o with ⟨_,h⟩|⟨h,_⟩
     ·exact h
     ·rw[HG.o]at h;cases h)
    go_wp2_with fail
    go_round
    case rel=>exact⟨i+1,HN.o,by go_num⟩
    case measure=>simp[intOf];omega
  ·have HN:Hid (i=Bk l):=J (by omega);go_wp2_with fail;go_ret;exact⟨by rw[<-HN.o];rfl,rfl⟩
theorem PP(w:World)(l:List UInt8)(hl:l.length<=1073741824):Calls Tryz.prog 155 #[str l] w fun e w'=>e= .returned (.bool (CS l))/\w=w':=by
 have H:=J (Ks l);have HR:=J (fun W=>Kz W l hl);cases h0:(l == [])
 ·by_cases h24:l.length<=24
  ·have hd:decide ((l.length:Int)<=24)=true:=by rw[decide_eq_true_iff];omega
   have ba:(l.length:Int)<=24:=by omega
   have he:((Bk l:Int) == (l.length:Int))=decide (Bk l=l.length):=by rw[Bool.eq_iff_iff];simp;omega
   rw[h0,decide_eq_true h24]at H;cases h1:decide (Bk l=l.length)
   all_goals
    rw[h1]at he;rw[h1]at H;clear h1;generalize Bk l=r at *;go_enter Tryz.func155,Tryz.ntmps155;go_wp2_with fail;refine(HR.o _).mono ?_
    rintro e w1 ⟨rfl,rfl⟩;go_wp2_with fail;go_ret;rw[H.o];exact⟨rfl,rfl⟩
  ·have hd:decide ((l.length:Int)<=24)=false:=by simp;omega
   have ba:¬(l.length:Int)<=24:=by omega
   rw[h0,decide_eq_false h24]at H;clear h24;go_enter Tryz.func155,Tryz.ntmps155;go_wp2_with fail;go_ret;rw[H.o];exact⟨rfl,rfl⟩
 ·rw[h0]at H;go_enter Tryz.func155,Tryz.ntmps155;go_wp2_with fail;go_ret;rw[H.o];exact⟨rfl,rfl⟩
theorem Mi(w:World)(l:List UInt8)(hl:l.length<=1073741824):Calls Tryz.prog 125 #[str l] w fun e w'=>e= .returned (.int .i64 (Aj Ci l:Int))/\w=w':=by
 have hle:=DH Ci l;go_enter Tryz.func125,Tryz.ntmps125;go_wp2_with fail
 go_loop [3] (fun s=>∃i:Nat,i<=Aj Ci l/\s= .int .i64 (i:Int)) (fun s=>l.length-(intOf s).toNat)
 case atStart=>exact⟨0,Nat.zero_le _,rfl⟩
 case round=>
  obtain⟨i,hi,rfl⟩:=hrel;by_cases hlt:i<l.length
  ·have dD:=J (Tm hi hlt);have fh:=CM l i;have jy:=J (fun W=>GG W (Ac l i) fh);have wh:(Ac l i == 46)=((Ac l i:Int) == 46):=by rw[Bool.eq_iff_iff];simp;omega
   have Xp:=J wh;clear wh;cases hdig:Dz (Ac l i)
   ·rw[hdig]at jy;cases h46:((Ac l i:Int) == 46)
    ·have HG:Hid (Ci (Ac l i)=false):=J (by unfold Ci;rw[hdig,Xp.o,h46];rfl);clear hdig;go_wp2_with fail;refine(jy.o _).mono ?_
     rintro e w1 ⟨rfl,rfl⟩;have HN:Hid (i=Aj Ci l):=J (by
      rcases dD.o with ⟨h,_⟩|⟨_,h⟩
      ·rw[HG.o]at h;cases h
      ·exact h)
     go_wp2_with fail;go_ret;exact⟨by rw[<-HN.o];rfl,rfl⟩
    ·have HG:Hid (Ci (Ac l i)=true):=J (by unfold Ci;rw[hdig,Xp.o,h46];rfl);clear hdig;go_wp2_with fail;refine(jy.o _).mono ?_
     rintro e w1 ⟨rfl,rfl⟩;have HN:Hid (i+1<=Aj Ci l):=J (by
      rcases dD.o with ⟨_,h⟩|⟨h,_⟩
      ·exact h
      ·rw[HG.o]at h;cases h)
     go_wp2_with fail
     go_round
     case rel=>exact⟨i+1,HN.o,by go_num⟩
     case measure=>simp[intOf];omega
   ·have HG:Hid (Ci (Ac l i)=true):=J (by unfold Ci;rw[hdig];rfl);rw[hdig]at jy;clear hdig;go_wp2_with fail;refine(jy.o _).mono ?_
    rintro e w1 ⟨rfl,rfl⟩;have HN:Hid (i+1<=Aj Ci l):=J (by
     rcases dD.o with ⟨_,h⟩|⟨h,_⟩
     ·exact h
     ·rw[HG.o]at h;cases h)
    go_wp2_with fail
    go_round
    case rel=>exact⟨i+1,HN.o,by go_num⟩
    case measure=>simp[intOf];omega
  ·have HN:Hid (i=Aj Ci l):=J (by omega);go_wp2_with fail;go_ret;exact⟨by rw[<-HN.o];rfl,rfl⟩
theorem PF(w:World)(n:Nat)(ZD:n<256):Calls Tryz.prog 127 #[.int .u8 (n:Int)] w fun e w'=>e= .returned (.bool (Gs n))/\w=w':=by
 have hc:∀k:Nat,(n == k)=((n:Int) == (k:Int)):=fun k=>by rw[Bool.eq_iff_iff];simp;omega
 have H:Hid (Gs n=((n:Int) == 43 || (n:Int) == 45 || (n:Int) == 42 || (n:Int) == 47 || (n:Int) == 94 || (n:Int) == 40 || (n:Int) == 41)):=J (by
  unfold Gs;rw[hc 43,hc 45,hc 42,hc 47,hc 94,hc 40,hc 41];rfl)
 clear hc;cases b0:((n:Int) == 43)
 ·skip
  cases b1:((n:Int) == 45)
  ·skip
   cases b2:((n:Int) == 42)
   ·skip
    cases b3:((n:Int) == 47)
    ·skip
     cases b4:((n:Int) == 94)
     ·skip
      cases b5:((n:Int) == 40)
      ·skip
       cases b6:((n:Int) == 41)
       ·skip
        rw[b0,b1,b2,b3,b4,b5,b6]at H;go_enter Tryz.func127,Tryz.ntmps127;go_wp2_with fail;go_ret;rw[H.o];exact⟨rfl,rfl⟩
       ·skip
        rw[b0,b1,b2,b3,b4,b5,b6]at H;go_enter Tryz.func127,Tryz.ntmps127;go_wp2_with fail;go_ret;rw[H.o];exact⟨rfl,rfl⟩
      ·skip
       rw[b0,b1,b2,b3,b4,b5]at H;go_enter Tryz.func127,Tryz.ntmps127;go_wp2_with fail;go_ret;rw[H.o];exact⟨rfl,rfl⟩
     ·skip
      rw[b0,b1,b2,b3,b4]at H;go_enter Tryz.func127,Tryz.ntmps127;go_wp2_with fail;go_ret;rw[H.o];exact⟨rfl,rfl⟩
    ·skip
     rw[b0,b1,b2,b3]at H;go_enter Tryz.func127,Tryz.ntmps127;go_wp2_with fail;go_ret;rw[H.o];exact⟨rfl,rfl⟩
   ·skip
    rw[b0,b1,b2]at H;go_enter Tryz.func127,Tryz.ntmps127;go_wp2_with fail;go_ret;rw[H.o];exact⟨rfl,rfl⟩
  ·skip
   rw[b0,b1]at H;go_enter Tryz.func127,Tryz.ntmps127;go_wp2_with fail;go_ret;rw[H.o];exact⟨rfl,rfl⟩
 ·skip
  rw[b0]at H;go_enter Tryz.func127,Tryz.ntmps127;go_wp2_with fail;go_ret;rw[H.o];exact⟨rfl,rfl⟩
theorem MU(w:World)(neg:Bool)(v:Value)(xs:List Nat)(h:Arr w v xs)(hn:xs.length<=1073741824):
  Calls Tryz.prog 212 #[.bool neg,v] w fun e w'=>∃v',e= .returned v'/\BE w.heap.size w' v' (sgn neg (val xs))/\Ext w w':=by
 have HT:=J (fun W hx=>BU W v xs (h.ext hx) hn);have iP:=J (Me (val xs));have iG:=J (Ky (val xs));clear h;cases neg
 ·go_enter Tryz.func212,Tryz.ntmps212;go_wp2_with fail;refine(HT.o _ ((Ext.refl w).alloc _)).mono ?_
  rintro e w' ⟨v',rfl,ho,hx⟩;have HO:=J ho;obtain⟨A,c,hv,_⟩:=ho.2;rw[List.length_map]at hv;subst hv;clear ho;have b9:=(Blk.new w 24 #[.bool false,.slice none 0 0]).ext hx;have hc0:w'.cell? ⟨w.heap.size,0,none⟩=some (.bool false):=b9.cell 0;have hc1:w'.cell? ⟨w.heap.size,1,none⟩=some (.slice none 0 0):=b9.cell 1;have hf0:=b9.frozen 0;have eC:=b9.frozen 1;have hz:=b9.lt;have HX:=J hx;have HB:=J b9;clear hx b9;go_wp2_with fail;obtain⟨e9,cI⟩:=FD HB.o (.bool false) (.slice A (Af (val xs)).length c);refine bodyPost_ret (v:= .agg #[.bool false,.slice A (Af (val xs)).length c]) (by simp[results,Tryz.results212,go_sem,e9,cI]) rfl ?_
  exact⟨_,rfl,BE.laid HB.o HO.o (by simp) iG.o (((Ext.refl w).alloc _).trans HX.o) (Nat.le_refl _)⟩
 ·go_enter Tryz.func212,Tryz.ntmps212;go_wp2_with fail;refine(HT.o _ ((Ext.refl w).alloc _)).mono ?_
  rintro e w' ⟨v',rfl,ho,hx⟩;have HO:=J ho;obtain⟨A,c,hv,_⟩:=ho.2;rw[List.length_map]at hv;subst hv;clear ho;have b9:=(Blk.new w 24 #[.bool false,.slice none 0 0]).ext hx;have hc0:w'.cell? ⟨w.heap.size,0,none⟩=some (.bool false):=b9.cell 0;have hc1:w'.cell? ⟨w.heap.size,1,none⟩=some (.slice none 0 0):=b9.cell 1;have hf0:=b9.frozen 0;have eC:=b9.frozen 1;have hz:=b9.lt;have HX:=J hx;have HB:=J b9;clear hx b9;go_wp2_with fail;obtain⟨e9,cI⟩:=FD HB.o (.bool (decide (0<(Af (val xs)).length))) (.slice A (Af (val xs)).length c);refine bodyPost_ret (v:= .agg #[.bool (decide (0<(Af (val xs)).length)),.slice A (Af (val xs)).length c]) (by simp[results,Tryz.results212,go_sem,e9,cI]) rfl ?_
  exact⟨_,rfl,BE.laid HB.o HO.o (by simp) iP.o (((Ext.refl w).alloc _).trans HX.o) (Nat.le_refl _)⟩
@[irreducible] def was (w:World) (g o:Nat):Value:=(w.cell? ⟨g,o,none⟩).getD undef
theorem BE.put{w w1 w':World}{g:Nat}{bi:Bool}{m:Value}{z:Int}(hi:BE w1.heap.size w' (.agg #[.bool bi,m]) z)(hg:g<w1.heap.size)(hw:w.heap.size<=w1.heap.size):
  BE w.heap.size ((w'.setCell ⟨g,0,none⟩ (.bool bi)).setCell ⟨g,1,none⟩ m) (.agg #[.bool bi,m]) z:=((hi.far hg _).far hg _).mono hw
def BB(B:Nat)(w:World)(v:Value)(p:Int)(q:Nat):Prop:=∃m d,v= .agg #[.bool (decide (p<0)),m,d]/\Own B w m (Af p.natAbs)/\Own B w d (Af q)
def D8(w:World)(v:Value)(p:Int)(q:Nat):Prop:=∃m d,v= .agg #[.bool (decide (p<0)),m,d]/\Arr w m (Af p.natAbs)/\Arr w d (Af q)
section
variable {B B':Nat} {w w':World} {v:Value} {p:Int} {q:Nat}
theorem BB.ext(h:BB B w v p q)(hb:Ext w w'):BB B w' v p q:=by
 obtain⟨m,d,rfl,h1,h2⟩:=h;exact⟨m,d,rfl,h1.ext hb,h2.ext hb⟩
theorem BB.mono(h:BB B w v p q)(hB:B'<=B):BB B' w v p q:=by
 obtain⟨m,d,rfl,h1,h2⟩:=h;exact⟨m,d,rfl,h1.mono hB,h2.mono hB⟩
theorem BB.far(h:BB B w v p q){a:Addr}(ha:a.block<B)(u:Value):BB B (w.setCell a u) v p q:=by
 obtain⟨m,d,rfl,h1,h2⟩:=h;exact⟨m,d,rfl,h1.far ha u,h2.far ha u⟩
theorem BB.arr(h:BB B w v p q):D8 w v p q:=by
 obtain⟨m,d,rfl,h1,h2⟩:=h;exact⟨m,d,rfl,h1.arr,h2.arr⟩
theorem D8.ext(h:D8 w v p q)(hb:Ext w w'):D8 w' v p q:=by
 obtain⟨m,d,rfl,h1,h2⟩:=h;exact⟨m,d,rfl,h1.ext hb,h2.ext hb⟩
theorem D8.shape(h:D8 w v p q):∃b n A c n' A' c',v= .agg #[.bool b,.slice A n c,.slice A' n' c']:=by
 obtain⟨m,d,rfl,h1,h2⟩:=h;obtain⟨n,A,c,rfl⟩:=h1.shape;obtain⟨n',A',c',rfl⟩:=h2.shape;exact⟨_,n,A,c,n',A',c',rfl⟩
theorem BB.shape(h:BB B w v p q):∃b n A c n' A' c',v= .agg #[.bool b,.slice A n c,.slice A' n' c']:=h.arr.shape
theorem TO{a b c a' b' c':Value}(h:Value.agg #[a,b,c]= .agg #[a',b',c']):a=a'/\b=b'/\c=c':=by
 injection h with h
 injection h with h
 injection h with h1 h
 injection h with h2 h
 injection h with h3 h
 exact⟨h1,h2,h3⟩
theorem D8.sign{bb:Bool}{m d:Value}(h:D8 w (.agg #[.bool bb,m,d]) p q):bb=decide (p<0):=by
 obtain⟨m',d',he,h1,h2⟩:=h;obtain⟨e1,_,_⟩:=TO he;injection e1
theorem D8.num{bb:Bool}{m d:Value}(h:D8 w (.agg #[.bool bb,m,d]) p q):Arr w m (Af p.natAbs):=by
 obtain⟨m',d',he,h1,h2⟩:=h;obtain⟨_,e2,_⟩:=TO he;rw[e2];exact h1
theorem D8.int{bb:Bool}{m d:Value}(h:D8 w (.agg #[.bool bb,m,d]) p q):CG w (.agg #[.bool bb,m]) p:=⟨m,by rw[h.sign],h.num⟩
theorem BB.mk{bb:Bool}{m d:Value}(h:BE B w (.agg #[.bool bb,m]) p)(h':Own B w d (Af q)):BB B w (.agg #[.bool bb,m,d]) p q:=⟨m,d,by rw[h.sign],h.mag,h'⟩
end
def MM(z:Int)(d:Nat):Int:=sgn (decide (z<0)) (z.natAbs / Nat.gcd z.natAbs d)
def MO(z:Int)(d:Nat):Nat:=d / Nat.gcd z.natAbs d
theorem Cb{w:World}{g:Nat}{t:TypeId}{a b c:Value}(h:Blk w g t #[a,b,c])(a' b' c':Value):
  (w.setCell ⟨g,0,none⟩ a').cell? ⟨g,0,none⟩=some a'/\((w.setCell ⟨g,0,none⟩ a').setCell ⟨g,1,none⟩ b').cell? ⟨g,1,none⟩=some b'/\(((w.setCell ⟨g,0,none⟩ a').setCell ⟨g,1,none⟩ b').setCell ⟨g,2,none⟩ c').cell? ⟨g,2,none⟩=some c':=
 ⟨(h.set_ 0 a').cell 0,((h.set_ 0 a').set_ 1 b').cell 1,(((h.set_ 0 a').set_ 1 b').set_ 2 c').cell 2⟩
theorem BB.put{w w1 w':World}{g:Nat}{bi:Bool}{m d:Value}{p:Int}{q:Nat}(hi:BB w1.heap.size w' (.agg #[.bool bi,m,d]) p q)(hg:g<w1.heap.size)(hw:w.heap.size<=w1.heap.size):
  BB w.heap.size (((w'.setCell ⟨g,0,none⟩ (.bool bi)).setCell ⟨g,1,none⟩ m).setCell ⟨g,2,none⟩ d) (.agg #[.bool bi,m,d]) p q:=(((hi.far hg _).far hg _).far hg _).mono hw
theorem BB.zero(B:Nat)(w:World):BB B w (.agg #[.bool false,.slice none 0 0,.slice none 0 0]) 0 0:=⟨_,_,rfl,Own.none_ _ _,Own.none_ _ _⟩
end Big
end Go.Proofs.YtkoaogkknnelaaaGreatDoor
