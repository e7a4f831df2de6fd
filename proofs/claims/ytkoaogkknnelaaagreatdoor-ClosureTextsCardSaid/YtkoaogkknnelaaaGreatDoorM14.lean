import Derived.Test.YtkoaogkknnelaaaGreatDoorM13
set_option linter.unusedVariables false
set_option linter.unusedSimpArgs false
set_option maxRecDepth 100000
namespace Go.Proofs.YtkoaogkknnelaaaGreatDoor
namespace Big
open Lib renaming hid → J
open Go.RowKit
def BF:List (List UInt8):=[[112,105],[101],[115,113,114,116],[101,120,112],[108,110],[115,105,110],[99,111,115],[97,116,97,110]]
def By(l:List UInt8):Nat:=if l=[115,113,114,116] then 11 else if l=[101,120,112] then 12 else if l=[108,110] then 13 else if l=[115,105,110] then 14 else if l=[99,111,115] then 15 else if l=[97,116,97,110] then 16 else 0
def AY(l:List UInt8):Bool:=l == [112,105] || l == [101] || By l != 0
theorem LM(w:World)(l:List UInt8):Calls Tryz.prog 152 #[str l] w fun e w'=>e= .returned (.int .i64 (By l:Int))/\w=w':=by
 have H:Hid (By l=if l=[115,113,114,116] then 11 else if l=[101,120,112] then 12 else if l=[108,110] then 13 else if l=[115,105,110] then 14 else if l=[99,111,115] then 15 else if l=[97,116,97,110] then 16 else 0):=J rfl;by_cases h0:l=[115,113,114,116]
 ·have HR:Hid (By l=11):=J (by rw[H.o,if_pos h0]);have b0:(l == [115,113,114,116])=true:=by rw[beq_iff_eq];exact h0
  clear H h0;go_enter Tryz.func152,Tryz.ntmps152;go_wp2_with fail;go_ret;rw[HR.o];exact⟨rfl,rfl⟩
 by_cases h1:l=[101,120,112]
 ·have HR:Hid (By l=12):=J (by rw[H.o,if_neg h0,if_pos h1]);have b0:(l == [115,113,114,116])=false:=by rw[beq_eq_false_iff_ne];exact h0
  have b1:(l == [101,120,112])=true:=by rw[beq_iff_eq];exact h1
  clear H h0 h1;go_enter Tryz.func152,Tryz.ntmps152;go_wp2_with fail;go_ret;rw[HR.o];exact⟨rfl,rfl⟩
 by_cases h2:l=[108,110]
 ·have HR:Hid (By l=13):=J (by rw[H.o,if_neg h0,if_neg h1,if_pos h2]);have b0:(l == [115,113,114,116])=false:=by rw[beq_eq_false_iff_ne];exact h0
  have b1:(l == [101,120,112])=false:=by rw[beq_eq_false_iff_ne];exact h1
  have b2:(l == [108,110])=true:=by rw[beq_iff_eq];exact h2
  clear H h0 h1 h2;go_enter Tryz.func152,Tryz.ntmps152;go_wp2_with fail;go_ret;rw[HR.o];exact⟨rfl,rfl⟩
 by_cases h3:l=[115,105,110]
 ·have HR:Hid (By l=14):=J (by rw[H.o,if_neg h0,if_neg h1,if_neg h2,if_pos h3]);have b0:(l == [115,113,114,116])=false:=by rw[beq_eq_false_iff_ne];exact h0
  have b1:(l == [101,120,112])=false:=by rw[beq_eq_false_iff_ne];exact h1
  have b2:(l == [108,110])=false:=by rw[beq_eq_false_iff_ne];exact h2
  have b3:(l == [115,105,110])=true:=by rw[beq_iff_eq];exact h3
  clear H h0 h1 h2 h3;go_enter Tryz.func152,Tryz.ntmps152;go_wp2_with fail;go_ret;rw[HR.o];exact⟨rfl,rfl⟩
 by_cases h4:l=[99,111,115]
 ·have HR:Hid (By l=15):=J (by rw[H.o,if_neg h0,if_neg h1,if_neg h2,if_neg h3,if_pos h4]);have b0:(l == [115,113,114,116])=false:=by rw[beq_eq_false_iff_ne];exact h0
  have b1:(l == [101,120,112])=false:=by rw[beq_eq_false_iff_ne];exact h1
  have b2:(l == [108,110])=false:=by rw[beq_eq_false_iff_ne];exact h2
  have b3:(l == [115,105,110])=false:=by rw[beq_eq_false_iff_ne];exact h3
  have b4:(l == [99,111,115])=true:=by rw[beq_iff_eq];exact h4
  clear H h0 h1 h2 h3 h4;go_enter Tryz.func152,Tryz.ntmps152;go_wp2_with fail;go_ret;rw[HR.o];exact⟨rfl,rfl⟩
 by_cases h5:l=[97,116,97,110]
 ·have HR:Hid (By l=16):=J (by rw[H.o,if_neg h0,if_neg h1,if_neg h2,if_neg h3,if_neg h4,if_pos h5]);have b0:(l == [115,113,114,116])=false:=by rw[beq_eq_false_iff_ne];exact h0
  have b1:(l == [101,120,112])=false:=by rw[beq_eq_false_iff_ne];exact h1
  have b2:(l == [108,110])=false:=by rw[beq_eq_false_iff_ne];exact h2
  have b3:(l == [115,105,110])=false:=by rw[beq_eq_false_iff_ne];exact h3
  have b4:(l == [99,111,115])=false:=by rw[beq_eq_false_iff_ne];exact h4
  have b5:(l == [97,116,97,110])=true:=by rw[beq_iff_eq];exact h5
  clear H h0 h1 h2 h3 h4 h5;go_enter Tryz.func152,Tryz.ntmps152;go_wp2_with fail;go_ret;rw[HR.o];exact⟨rfl,rfl⟩
 have HR:Hid (By l=0):=J (by rw[H.o,if_neg h0,if_neg h1,if_neg h2,if_neg h3,if_neg h4,if_neg h5]);have b0:(l == [115,113,114,116])=false:=by rw[beq_eq_false_iff_ne];exact h0
 have b1:(l == [101,120,112])=false:=by rw[beq_eq_false_iff_ne];exact h1
 have b2:(l == [108,110])=false:=by rw[beq_eq_false_iff_ne];exact h2
 have b3:(l == [115,105,110])=false:=by rw[beq_eq_false_iff_ne];exact h3
 have b4:(l == [99,111,115])=false:=by rw[beq_eq_false_iff_ne];exact h4
 have b5:(l == [97,116,97,110])=false:=by rw[beq_eq_false_iff_ne];exact h5
 clear H h0 h1 h2 h3 h4 h5;go_enter Tryz.func152,Tryz.ntmps152;go_wp2_with fail;go_ret;rw[HR.o];exact⟨rfl,rfl⟩
theorem Fc(w:World)(l:List UInt8):Calls Tryz.prog 95 #[str l] w fun e w'=>e= .returned (.bool (AY l))/\w=w':=by
 have H:Hid (AY l=(l == [112,105] || l == [101] || By l != 0)):=J rfl;have HF:=J (fun W=>LM W l);cases b0:(l == [112,105])
 ·cases b1:(l == [101])
  ·have hk:((By l:Int) != 0)=(By l != 0):=by rw[qbi];simp
   cases b2:(By l != 0)
   all_goals
    rw[b2]at hk;rw[b0,b1,b2]at H;clear b2;go_enter Tryz.func95,Tryz.ntmps95;go_wp2_with fail;refine(HF.o _).mono ?_
    rintro e w1 ⟨rfl,rfl⟩;go_wp2_with fail;go_ret;rw[H.o];exact⟨rfl,rfl⟩
  ·rw[b0,b1]at H;go_enter Tryz.func95,Tryz.ntmps95;go_wp2_with fail;go_ret;rw[H.o];exact⟨rfl,rfl⟩
 ·rw[b0]at H;go_enter Tryz.func95,Tryz.ntmps95;go_wp2_with fail;go_ret;rw[H.o];exact⟨rfl,rfl⟩
theorem Kr(w:World):Calls Tryz.prog 197 #[] w fun e w'=>∃v,e= .returned v/\Ce w.heap.size w' v BF/\Ext w w':=by
 go_enter Tryz.func197,Tryz.ntmps197;go_wp2_with fail;go_ret;exact⟨_,rfl,Ce.block (ls:=BF) (Blk.new w 9 _) (qad _) (by decide),(Ext.refl w).alloc _⟩
theorem Ca(l:List UInt8):AY l=BF.contains l:=by
 have h:AY l=(l == [112,105] || l == [101] || l == [115,113,114,116] || l == [101,120,112] || l == [108,110] || l == [115,105,110] || l == [99,111,115] || l == [97,116,97,110]):=by
  unfold AY;by_cases h0:l=[115,113,114,116]
  ·subst h0;rfl
  by_cases h1:l=[101,120,112]
  ·subst h1;rfl
  by_cases h2:l=[108,110]
  ·subst h2;rfl
  by_cases h3:l=[115,105,110]
  ·subst h3;rfl
  by_cases h4:l=[99,111,115]
  ·subst h4;rfl
  by_cases h5:l=[97,116,97,110]
  ·subst h5;rfl
  unfold By;rw[if_neg h0,if_neg h1,if_neg h2,if_neg h3,if_neg h4,if_neg h5];rw[beq_false_of_ne h0,beq_false_of_ne h1,beq_false_of_ne h2,beq_false_of_ne h3,beq_false_of_ne h4,beq_false_of_ne h5];simp only[qbv];simp
 rw[h,qbi];unfold BF;simp[or_assoc]
theorem SA(l:List UInt8)(j:Nat)(hj:j<BF.length)(h1:1<j)(h:l=BF[j]):By l=11+j-2:=by
 subst h;have:j=2\/j=3\/j=4\/j=5\/j=6\/j=7:=by
  have:BF.length=8:=rfl;omega
 rcases this with rfl|rfl|rfl|rfl|rfl|rfl<;>rfl
theorem OG(l:List UInt8)(h:∀j (hj:j<BF.length),1<j->l≠BF[j]):By l=0:=by
 have h2:l≠[115,113,114,116]:=h 2 (by decide) (by decide);have h3:l≠[101,120,112]:=h 3 (by decide) (by decide);have h4:l≠[108,110]:=h 4 (by decide) (by decide);have h5:l≠[115,105,110]:=h 5 (by decide) (by decide);have h6:l≠[99,111,115]:=h 6 (by decide) (by decide);have h7:l≠[97,116,97,110]:=h 7 (by decide) (by decide);unfold By;rw[if_neg h2,if_neg h3,if_neg h4,if_neg h5,if_neg h6,if_neg h7]
theorem Kg(w:World)(l:List UInt8):Calls Tryz.prog 156 #[str l] w fun e w'=>e= .returned (.bool (AY l))/\Ext w w':=by
 have HW:=J (fun W=>Kr W);go_enter Tryz.func156,Tryz.ntmps156;go_wp2_with fail;refine(HW.o _).mono ?_
 rintro e w1 ⟨v1,rfl,ho,hx⟩;have HX:=J hx;obtain⟨A,c,rfl,hc,hm,aa⟩:=ho.arr.open;obtain⟨b,o,rfl,hb,aa⟩:=aa (by decide);have HC:=J aa;have el:BF.length=8:=rfl;have ml:=J el;rw[el]at hc ⊢;clear el ho hx aa;unfold maxLen at hm;go_wp2_with fail
 go_loop [7] (fun s=>∃i:Nat,i<=8/\s= .int .i64 (i:Int)/\Hid (∀j (hj:j<BF.length),j<i->l≠BF[j])) (fun s=>8-(intOf s).toNat)
 case atStart=>exact⟨0,qal _,rfl,J (fun j hj h=>by omega)⟩
 case round=>
  obtain⟨i,hi,rfl,HN⟩:=hrel;by_cases hlt:i<8
  ·have wY:i<BF.length:=by rw[ml.o];exact hlt
   have hx:=HC.o i wY;by_cases he:l=BF[i]
   ·have HR:Hid (AY l=true):=J (by rw[Ca,List.contains_iff_mem,he];exact qap wY);generalize BF[i]=m at *;have iJ:(l == m)=true:=by rw[beq_iff_eq];exact he
    clear he;go_wp2_with fail;go_ret;rw[HR.o];exact⟨rfl,HX.o⟩
   ·have dQ:Hid (∀j (hj:j<BF.length),j<i+1->l≠BF[j]):=J (fun j hj h=>by
     rcases qam j i with h1|h1
     ·exact HN.o j hj h1
     ·obtain rfl:j=i:=by omega
      exact he)
    generalize BF[i]=m at *;have iJ:(l == m)=false:=by rw[beq_eq_false_iff_ne];exact he
    clear he;go_wp2_with fail
    go_round
    case rel=>exact⟨i+1,by omega,by go_num,dQ⟩
    case measure=>simp[intOf];omega
  ·obtain rfl:i=8:=by omega
   have HR:Hid (AY l=false):=J (by
    rw[Ca,Bool.eq_false_iff];intro e9;rw[List.contains_iff_mem]at e9;obtain⟨j,hj,e⟩:=qby e9;exact HN.o j hj (by have:=ml.o;omega) e.symm)
   go_wp2_with fail;go_ret;rw[HR.o];exact⟨rfl,HX.o⟩
theorem Gq(w:World)(l:List UInt8):Calls Tryz.prog 267 #[str l] w fun e w'=>e= .returned (.int .i64 (By l:Int))/\Ext w w':=by
 have HW:=J (fun W=>Kr W);go_enter Tryz.func267,Tryz.ntmps267;go_wp2_with fail;refine(HW.o _).mono ?_
 rintro e w1 ⟨v1,rfl,ho,hx⟩;have HX:=J hx;obtain⟨A,c,rfl,hc,hm,aa⟩:=ho.arr.open;obtain⟨b,o,rfl,hb,aa⟩:=aa (by decide);have HC:=J aa;have el:BF.length=8:=rfl;have ml:=J el;rw[el]at hc ⊢;clear el ho hx aa;unfold maxLen at hm;go_wp2_with fail
 go_loop [7] (fun s=>∃i:Nat,i<=8/\s= .int .i64 (i:Int)/\Hid (∀j (hj:j<BF.length),1<j->j<i->l≠BF[j])) (fun s=>8-(intOf s).toNat)
 case atStart=>exact⟨0,qal _,rfl,J (fun j hj _ h=>by omega)⟩
 case round=>
  obtain⟨i,hi,rfl,HN⟩:=hrel;by_cases hlt:i<8
  ·have wY:i<BF.length:=by rw[ml.o];exact hlt
   have hx:=HC.o i wY;have jl:=J (SA l i wY);have dQ:Hid ((1<i->l≠BF[i])->∀j (hj:j<BF.length),1<j->j<i+1->l≠BF[j]):=J (fun he j hj h0 h=>by
    rcases qam j i with h1|h1
    ·exact HN.o j hj h0 h1
    ·obtain rfl:j=i:=by omega
     exact he h0)
   generalize BF[i]=m at *;by_cases h1:1<i
   ·have h1':(1:Int)<(i:Int):=by omega
    by_cases he:l=m
    ·have HR:=J (jl.o h1 he);have iJ:(l == m)=true:=by rw[beq_iff_eq];exact he
     clear he;go_wp2_with fail;go_ret;exact⟨congrArg (fun z=>Ending.returned (.int .i64 z)) (by rw[HR.o];omega),HX.o⟩
    ·have um:=J (dQ.o (fun _=>he));have iJ:(l == m)=false:=by rw[beq_eq_false_iff_ne];exact he
     clear he;go_wp2_with fail
     go_round
     case rel=>exact⟨i+1,by omega,by go_num,um⟩
     case measure=>simp[intOf];omega
   ·have um:=J (dQ.o (fun h=>absurd h h1));have h1':¬(1:Int)<(i:Int):=by omega
    go_wp2_with fail
    go_round
    case rel=>exact⟨i+1,by omega,by go_num,um⟩
    case measure=>simp[intOf];omega
  ·obtain rfl:i=8:=by omega
   have HR:Hid (By l=0):=J (OG l (fun j hj h0=>HN.o j hj h0 (by have:=ml.o;omega)));go_wp2_with fail;go_ret;rw[HR.o];exact⟨rfl,HX.o⟩
def Bm(l:List UInt8):Nat:=if Ej (Ad l 0) then An BU l else 0
def DU(l:List UInt8)(i:Nat):Bool:=Ej (Ad l i) || (decide (0<i) && (Dp (Ad l i) || Ad l i == 95))
theorem Gy{p:Nat->Bool}{l:List UInt8}(h:0<l.length)(hp:p (Ad l 0)=true):0<An p l:=by
 cases l with
 |nil=>simp at h
 |cons c t=>
  have hc:p c.toNat=true:=hp;rw[An,if_pos hc];omega
theorem Kz{p:Nat->Bool}{l:List UInt8}{i:Nat}(h:i<An p l):p (Ad l i)=true:=by
 obtain⟨h1,h2⟩:=Ht p l i h;rw[BC l i h1];exact h2
theorem Ja{p:Nat->Bool}{l:List UInt8}(h:An p l<l.length):p (Ad l (An p l))=false:=by
 rw[BC l _ h];exact NU p l h
theorem N1(l:List UInt8):Bm l<=l.length:=by
 unfold Bm;split
 ·exact Dx _ _
 ·exact qal _
theorem N2{l:List UInt8}{i:Nat}(hi:i<=Bm l)(hl:i<l.length):(DU l i=true/\i<Bm l)\/(DU l i=false/\i=Bm l):=by
 have hw:BU (Ad l i)=(Ej (Ad l i) || Dp (Ad l i) || Ad l i == 95):=rfl;unfold Bm at hi ⊢;cases h0:Ej (Ad l 0)
 ·rw[h0]at hi;simp only[qbg,if_false]at hi ⊢;obtain rfl:i=0:=by omega
  exact .inr ⟨by unfold DU;rw[h0];rfl,rfl⟩
 ·rw[h0]at hi;simp only[if_true]at hi ⊢;rcases qar i with hz|hz
  ·subst hz;exact .inl ⟨by unfold DU;rw[h0];rfl,Gy hl (by unfold BU;rw[h0];rfl)⟩
  ·have hg:DU l i=BU (Ad l i):=by unfold DU;rw[hw,decide_eq_true hz,qaQ,Bool.or_assoc]
   rcases qam i (An BU l) with h1|h1
   ·exact .inl ⟨by rw[hg];exact Kz h1,h1⟩
   ·have:i=An BU l:=by omega
    subst this;exact .inr ⟨by rw[hg];exact Ja hl,rfl⟩
theorem T0{l:List UInt8}{i:Nat}(hi:i<=An Cw l)(hl:i<l.length):(Cw (Ad l i)=true/\i<An Cw l)\/(Cw (Ad l i)=false/\i=An Cw l):=by
 rcases qam i (An Cw l) with h1|h1
 ·exact .inl ⟨Kz h1,h1⟩
 ·have:i=An Cw l:=by omega
  subst this;exact .inr ⟨Ja hl,rfl⟩
theorem TL(p:Nat->Bool)(l:List UInt8):l.all (fun c=>p c.toNat)=decide (An p l=l.length):=by
 induction l with
 |nil=>rfl
 |cons c t ih=>
  rw[qbV,ih,An];cases hc:p c.toNat
  ·simp
  ·have:(An p t+1=(c::t).length)↔(An p t=t.length):=by simp
   simp
theorem Ks(l:List UInt8):CO l=(!(l == []) && (decide (l.length<=24) && decide (Bm l=l.length))):=by
 rcases qar l.length with h0|h0
 ·obtain rfl:l=[]:=qau h0;rfl
 ·rw[L0,TL];unfold Bm;cases h1:Ej (Ad l 0)
  ·have:¬(0=l.length):=by omega
   simp[this]
  ·simp[Bool.and_assoc]
theorem Kx(w:World)(l:List UInt8)(hl:l.length<=1073741824):Calls Tryz.prog 123 #[str l] w fun e w'=>e= .returned (.int .i64 (Bm l:Int))/\w=w':=by
 have hle:=N1 l;go_enter Tryz.func123,Tryz.ntmps123;go_wp2_with fail
 go_loop [3] (fun s=>∃i:Nat,i<=Bm l/\s= .int .i64 (i:Int)) (fun s=>l.length-(intOf s).toNat)
 case atStart=>exact⟨0,qal _,rfl⟩
 case round=>
  obtain⟨i,hi,rfl⟩:=hrel;by_cases hlt:i<l.length
  ·have aS:=J (N2 hi hlt);have eM:=CL l i;have bD:=J (fun W=>In W (Ad l i) eM);have i9:=J (fun W=>Gz W (Ad l i) eM);have xF:(Ad l i == 95)=((Ad l i:Int) == 95):=by rw[qbi];simp;omega
   have Y5:=J xF;clear xF;cases hlet:Ej (Ad l i)
   ·rcases qar i with hz|hz
    ·have HG:Hid (DU l i=false):=J (by unfold DU;rw[hlet,hz];rfl);have pP:¬(0:Int)<(i:Int):=by omega
     have nS:decide ((0:Int)<(i:Int))=false:=by simp;omega
     rw[hlet]at bD;clear hlet hz;go_wp2_with fail;refine(bD.o _).mono ?_
     rintro e w1 ⟨rfl,rfl⟩;have HN:Hid (i=Bm l):=J (by
      rcases aS.o with ⟨h,_⟩|⟨_,h⟩
      ·rw[HG.o]at h;cases h
      ·exact h)
     go_wp2_with fail;go_ret;exact⟨by rw[<-HN.o];rfl,rfl⟩
    ·have pP:(0:Int)<(i:Int):=by omega
     have nS:decide ((0:Int)<(i:Int))=true:=by rw[decide_eq_true_iff];omega
     cases hdig:Dp (Ad l i)
     ·cases h95:((Ad l i:Int) == 95)
      ·have HG:Hid (DU l i=false):=J (by unfold DU;rw[hlet,hdig,Y5.o,h95];simp);rw[hlet]at bD;rw[hdig]at i9;clear hlet hz hdig;go_wp2_with fail;refine(bD.o _).mono ?_
       rintro e w1 ⟨rfl,rfl⟩;go_wp2_with fail;refine(i9.o _).mono ?_
       rintro e w1 ⟨rfl,rfl⟩;have HN:Hid (i=Bm l):=J (by
        rcases aS.o with ⟨h,_⟩|⟨_,h⟩
        ·rw[HG.o]at h;cases h
        ·exact h)
       go_wp2_with fail;go_ret;exact⟨by rw[<-HN.o];rfl,rfl⟩
      ·have HG:Hid (DU l i=true):=J (by unfold DU;rw[hlet,hdig,Y5.o,h95];simp;omega);rw[hlet]at bD;rw[hdig]at i9;clear hlet hz hdig;go_wp2_with fail;refine(bD.o _).mono ?_
       rintro e w1 ⟨rfl,rfl⟩;go_wp2_with fail;refine(i9.o _).mono ?_
       rintro e w1 ⟨rfl,rfl⟩;have HN:Hid (i+1<=Bm l):=J (by
        rcases aS.o with ⟨_,h⟩|⟨h,_⟩
        ·exact h
        ·rw[HG.o]at h;cases h)
       go_wp2_with fail
       go_round
       case rel=>exact⟨i+1,HN.o,by go_num⟩
       case measure=>simp[intOf];omega
     ·have HG:Hid (DU l i=true):=J (by unfold DU;rw[hlet,hdig];simp;omega);rw[hlet]at bD;rw[hdig]at i9;clear hlet hz hdig;go_wp2_with fail;refine(bD.o _).mono ?_
      rintro e w1 ⟨rfl,rfl⟩;go_wp2_with fail;refine(i9.o _).mono ?_
      rintro e w1 ⟨rfl,rfl⟩;have HN:Hid (i+1<=Bm l):=J (by
       rcases aS.o with ⟨_,h⟩|⟨h,_⟩
       ·exact h
       ·rw[HG.o]at h;cases h)
      go_wp2_with fail
      go_round
      case rel=>exact⟨i+1,HN.o,by go_num⟩
      case measure=>simp[intOf];omega
   ·have HG:Hid (DU l i=true):=J (by unfold DU;rw[hlet];rfl);rw[hlet]at bD;clear hlet;go_wp2_with fail;refine(bD.o _).mono ?_
    rintro e w1 ⟨rfl,rfl⟩;have HN:Hid (i+1<=Bm l):=J (by
     rcases aS.o with ⟨_,h⟩|⟨h,_⟩
     ·exact h
     ·rw[HG.o]at h;cases h)
    go_wp2_with fail
    go_round
    case rel=>exact⟨i+1,HN.o,by go_num⟩
    case measure=>simp[intOf];omega
  ·have HN:Hid (i=Bm l):=J (by omega);go_wp2_with fail;go_ret;exact⟨by rw[<-HN.o];rfl,rfl⟩
theorem Qf(w:World)(l:List UInt8)(hl:l.length<=1073741824):Calls Tryz.prog 155 #[str l] w fun e w'=>e= .returned (.bool (CO l))/\w=w':=by
 have H:=J (Ks l);have HR:=J (fun W=>Kx W l hl);cases h0:(l == [])
 ·by_cases h24:l.length<=24
  ·have hd:decide ((l.length:Int)<=24)=true:=by rw[decide_eq_true_iff];omega
   have bE:(l.length:Int)<=24:=by omega
   have he:((Bm l:Int) == (l.length:Int))=decide (Bm l=l.length):=by rw[qbi];simp;omega
   rw[h0,decide_eq_true h24]at H;cases h1:decide (Bm l=l.length)
   all_goals
    rw[h1]at he;rw[h1]at H;clear h1;generalize Bm l=r at *;go_enter Tryz.func155,Tryz.ntmps155;go_wp2_with fail;refine(HR.o _).mono ?_
    rintro e w1 ⟨rfl,rfl⟩;go_wp2_with fail;go_ret;rw[H.o];exact⟨rfl,rfl⟩
  ·have hd:decide ((l.length:Int)<=24)=false:=by simp;omega
   have bE:¬(l.length:Int)<=24:=by omega
   rw[h0,decide_eq_false h24]at H;clear h24;go_enter Tryz.func155,Tryz.ntmps155;go_wp2_with fail;go_ret;rw[H.o];exact⟨rfl,rfl⟩
 ·rw[h0]at H;go_enter Tryz.func155,Tryz.ntmps155;go_wp2_with fail;go_ret;rw[H.o];exact⟨rfl,rfl⟩
theorem Mn(w:World)(l:List UInt8)(hl:l.length<=1073741824):Calls Tryz.prog 125 #[str l] w fun e w'=>e= .returned (.int .i64 (An Cw l:Int))/\w=w':=by
 have hle:=Dx Cw l;go_enter Tryz.func125,Tryz.ntmps125;go_wp2_with fail
 go_loop [3] (fun s=>∃i:Nat,i<=An Cw l/\s= .int .i64 (i:Int)) (fun s=>l.length-(intOf s).toNat)
 case atStart=>exact⟨0,qal _,rfl⟩
 case round=>
  obtain⟨i,hi,rfl⟩:=hrel;by_cases hlt:i<l.length
  ·have aS:=J (T0 hi hlt);have eM:=CL l i;have i9:=J (fun W=>Gz W (Ad l i) eM);have xH:(Ad l i == 46)=((Ad l i:Int) == 46):=by rw[qbi];simp;omega
   have Y6:=J xH;clear xH;cases hdig:Dp (Ad l i)
   ·rw[hdig]at i9;cases h46:((Ad l i:Int) == 46)
    ·have HG:Hid (Cw (Ad l i)=false):=J (by unfold Cw;rw[hdig,Y6.o,h46];rfl);clear hdig;go_wp2_with fail;refine(i9.o _).mono ?_
     rintro e w1 ⟨rfl,rfl⟩;have HN:Hid (i=An Cw l):=J (by
      rcases aS.o with ⟨h,_⟩|⟨_,h⟩
      ·rw[HG.o]at h;cases h
      ·exact h)
     go_wp2_with fail;go_ret;exact⟨by rw[<-HN.o];rfl,rfl⟩
    ·have HG:Hid (Cw (Ad l i)=true):=J (by unfold Cw;rw[hdig,Y6.o,h46];rfl);clear hdig;go_wp2_with fail;refine(i9.o _).mono ?_
     rintro e w1 ⟨rfl,rfl⟩;have HN:Hid (i+1<=An Cw l):=J (by
      rcases aS.o with ⟨_,h⟩|⟨h,_⟩
      ·exact h
      ·rw[HG.o]at h;cases h)
     go_wp2_with fail
     go_round
     case rel=>exact⟨i+1,HN.o,by go_num⟩
     case measure=>simp[intOf];omega
   ·have HG:Hid (Cw (Ad l i)=true):=J (by unfold Cw;rw[hdig];rfl);rw[hdig]at i9;clear hdig;go_wp2_with fail;refine(i9.o _).mono ?_
    rintro e w1 ⟨rfl,rfl⟩;have HN:Hid (i+1<=An Cw l):=J (by
     rcases aS.o with ⟨_,h⟩|⟨h,_⟩
     ·exact h
     ·rw[HG.o]at h;cases h)
    go_wp2_with fail
    go_round
    case rel=>exact⟨i+1,HN.o,by go_num⟩
    case measure=>simp[intOf];omega
  ·have HN:Hid (i=An Cw l):=J (by omega);go_wp2_with fail;go_ret;exact⟨by rw[<-HN.o];rfl,rfl⟩
theorem P4(w:World)(n:Nat)(_hn:n<256):Calls Tryz.prog 127 #[.int .u8 (n:Int)] w fun e w'=>e= .returned (.bool (Gp n))/\w=w':=by
 have hc:∀k:Nat,(n == k)=((n:Int) == (k:Int)):=fun k=>by rw[qbi];simp;omega
 have H:Hid (Gp n=((n:Int) == 43 || (n:Int) == 45 || (n:Int) == 42 || (n:Int) == 47 || (n:Int) == 94 || (n:Int) == 40 || (n:Int) == 41)):=J (by
  unfold Gp;rw[hc 43,hc 45,hc 42,hc 47,hc 94,hc 40,hc 41];rfl)
 clear hc;cases b0:((n:Int) == 43)
 ·skip
  cases b1:((n:Int) == 45)
  ·skip
   cases b2:((n:Int) == 42)
   ·skip
    cases b3:((n:Int) == 47)
    ·skip
     cases b4:((n:Int) == 94)
     ·skip
      cases b5:((n:Int) == 40)
      ·skip
       cases b6:((n:Int) == 41)
       ·skip
        rw[b0,b1,b2,b3,b4,b5,b6]at H;go_enter Tryz.func127,Tryz.ntmps127;go_wp2_with fail;go_ret;rw[H.o];exact⟨rfl,rfl⟩
       ·skip
        rw[b0,b1,b2,b3,b4,b5,b6]at H;go_enter Tryz.func127,Tryz.ntmps127;go_wp2_with fail;go_ret;rw[H.o];exact⟨rfl,rfl⟩
      ·skip
       rw[b0,b1,b2,b3,b4,b5]at H;go_enter Tryz.func127,Tryz.ntmps127;go_wp2_with fail;go_ret;rw[H.o];exact⟨rfl,rfl⟩
     ·skip
      rw[b0,b1,b2,b3,b4]at H;go_enter Tryz.func127,Tryz.ntmps127;go_wp2_with fail;go_ret;rw[H.o];exact⟨rfl,rfl⟩
    ·skip
     rw[b0,b1,b2,b3]at H;go_enter Tryz.func127,Tryz.ntmps127;go_wp2_with fail;go_ret;rw[H.o];exact⟨rfl,rfl⟩
   ·skip
    rw[b0,b1,b2]at H;go_enter Tryz.func127,Tryz.ntmps127;go_wp2_with fail;go_ret;rw[H.o];exact⟨rfl,rfl⟩
  ·skip
   rw[b0,b1]at H;go_enter Tryz.func127,Tryz.ntmps127;go_wp2_with fail;go_ret;rw[H.o];exact⟨rfl,rfl⟩
 ·skip
  rw[b0]at H;go_enter Tryz.func127,Tryz.ntmps127;go_wp2_with fail;go_ret;rw[H.o];exact⟨rfl,rfl⟩
theorem M2(w:World)(neg:Bool)(v:Value)(xs:List Nat)(h:Arr w v xs)(hn:xs.length<=1073741824):
  Calls Tryz.prog 212 #[.bool neg,v] w fun e w'=>∃v',e= .returned v'/\BY w.heap.size w' v' (sgn neg (val xs))/\Ext w w':=by
 have HT:=J (fun W hx=>B4 W v xs (h.ext hx) hn);have gJ:=J (Mj (val xs));have fj:=J (Kw (val xs));clear h;cases neg
 ·go_enter Tryz.func212,Tryz.ntmps212;go_wp2_with fail;refine(HT.o _ ((Ext.refl w).alloc _)).mono ?_
  rintro e w' ⟨v',rfl,ho,hx⟩;have HO:=J ho;obtain⟨A,c,hv,_⟩:=ho.2;rw[qag]at hv;subst hv;clear ho;have bF:=(Blk.new w 24 #[.bool false,.slice none 0 0]).ext hx;have hc0:w'.cell? ⟨w.heap.size,0,none⟩=some (.bool false):=bF.cell 0;have hc1:w'.cell? ⟨w.heap.size,1,none⟩=some (.slice none 0 0):=bF.cell 1;have hf0:=bF.frozen 0;have en:=bF.frozen 1;have hz:=bF.lt;have HX:=J hx;have HB:=J bF;clear hx bF;go_wp2_with fail;obtain⟨dN,cB⟩:=Ec HB.o (.bool false) (.slice A (Af (val xs)).length c);refine bodyPost_ret (v:= .agg #[.bool false,.slice A (Af (val xs)).length c]) (by simp[results,Tryz.results212,go_sem,dN,cB]) rfl ?_
  exact⟨_,rfl,BY.laid HB.o HO.o (by simp) fj.o (((Ext.refl w).alloc _).trans HX.o) (qad _)⟩
 ·go_enter Tryz.func212,Tryz.ntmps212;go_wp2_with fail;refine(HT.o _ ((Ext.refl w).alloc _)).mono ?_
  rintro e w' ⟨v',rfl,ho,hx⟩;have HO:=J ho;obtain⟨A,c,hv,_⟩:=ho.2;rw[qag]at hv;subst hv;clear ho;have bF:=(Blk.new w 24 #[.bool false,.slice none 0 0]).ext hx;have hc0:w'.cell? ⟨w.heap.size,0,none⟩=some (.bool false):=bF.cell 0;have hc1:w'.cell? ⟨w.heap.size,1,none⟩=some (.slice none 0 0):=bF.cell 1;have hf0:=bF.frozen 0;have en:=bF.frozen 1;have hz:=bF.lt;have HX:=J hx;have HB:=J bF;clear hx bF;go_wp2_with fail;obtain⟨dN,cB⟩:=Ec HB.o (.bool (decide (0<(Af (val xs)).length))) (.slice A (Af (val xs)).length c);refine bodyPost_ret (v:= .agg #[.bool (decide (0<(Af (val xs)).length)),.slice A (Af (val xs)).length c]) (by simp[results,Tryz.results212,go_sem,dN,cB]) rfl ?_
  exact⟨_,rfl,BY.laid HB.o HO.o (by simp) gJ.o (((Ext.refl w).alloc _).trans HX.o) (qad _)⟩
@[irreducible] def was (w:World) (g o:Nat):Value:=(w.cell? ⟨g,o,none⟩).getD undef
def BH(B:Nat)(w:World)(v:Value)(p:Int)(q:Nat):Prop:=∃m d,v= .agg #[.bool (decide (p<0)),m,d]/\Own B w m (Af p.natAbs)/\Own B w d (Af q)
def Fq(w:World)(v:Value)(p:Int)(q:Nat):Prop:=∃m d,v= .agg #[.bool (decide (p<0)),m,d]/\Arr w m (Af p.natAbs)/\Arr w d (Af q)
section
variable {B B':Nat} {w w':World} {v:Value} {p:Int} {q:Nat}
theorem BH.ext(h:BH B w v p q)(hb:Ext w w'):BH B w' v p q:=by
 obtain⟨m,d,rfl,h1,h2⟩:=h;exact⟨m,d,rfl,h1.ext hb,h2.ext hb⟩
theorem BH.mono(h:BH B w v p q)(hB:B'<=B):BH B' w v p q:=by
 obtain⟨m,d,rfl,h1,h2⟩:=h;exact⟨m,d,rfl,h1.mono hB,h2.mono hB⟩
theorem BH.far(h:BH B w v p q){a:Addr}(ha:a.block<B)(u:Value):BH B (w.setCell a u) v p q:=by
 obtain⟨m,d,rfl,h1,h2⟩:=h;exact⟨m,d,rfl,h1.far ha u,h2.far ha u⟩
theorem BH.arr(h:BH B w v p q):Fq w v p q:=by
 obtain⟨m,d,rfl,h1,h2⟩:=h;exact⟨m,d,rfl,h1.arr,h2.arr⟩
theorem Fq.shape(h:Fq w v p q):∃b n A c n' A' c',v= .agg #[.bool b,.slice A n c,.slice A' n' c']:=by
 obtain⟨m,d,rfl,h1,h2⟩:=h;obtain⟨n,A,c,rfl⟩:=h1.shape;obtain⟨n',A',c',rfl⟩:=h2.shape;exact⟨_,n,A,c,n',A',c',rfl⟩
theorem BH.shape(h:BH B w v p q):∃b n A c n' A' c',v= .agg #[.bool b,.slice A n c,.slice A' n' c']:=h.arr.shape
theorem Ug{a b c a' b' c':Value}(h:Value.agg #[a,b,c]= .agg #[a',b',c']):a=a'/\b=b'/\c=c':=by
 injection h with h
 injection h with h
 injection h with h1 h
 injection h with h2 h
 injection h with h3 h
 exact⟨h1,h2,h3⟩
theorem Fq.sign{bb:Bool}{m d:Value}(h:Fq w (.agg #[.bool bb,m,d]) p q):bb=decide (p<0):=by
 obtain⟨m',d',he,h1,h2⟩:=h;obtain⟨e1,_,_⟩:=Ug he;injection e1
theorem Fq.num{bb:Bool}{m d:Value}(h:Fq w (.agg #[.bool bb,m,d]) p q):Arr w m (Af p.natAbs):=by
 obtain⟨m',d',he,h1,h2⟩:=h;obtain⟨_,e2,_⟩:=Ug he;rw[e2];exact h1
theorem Fq.int{bb:Bool}{m d:Value}(h:Fq w (.agg #[.bool bb,m,d]) p q):Cf w (.agg #[.bool bb,m]) p:=⟨m,by rw[h.sign],h.num⟩
theorem BH.mk{bb:Bool}{m d:Value}(h:BY B w (.agg #[.bool bb,m]) p)(h':Own B w d (Af q)):BH B w (.agg #[.bool bb,m,d]) p q:=⟨m,d,by rw[h.sign],h.mag,h'⟩
end
def MS(z:Int)(d:Nat):Int:=sgn (decide (z<0)) (z.natAbs / Nat.gcd z.natAbs d)
def MV(z:Int)(d:Nat):Nat:=d / Nat.gcd z.natAbs d
theorem Ck{w:World}{g:Nat}{t:TypeId}{a b c:Value}(h:Blk w g t #[a,b,c])(a' b' c':Value):
  (w.setCell ⟨g,0,none⟩ a').cell? ⟨g,0,none⟩=some a'/\((w.setCell ⟨g,0,none⟩ a').setCell ⟨g,1,none⟩ b').cell? ⟨g,1,none⟩=some b'/\(((w.setCell ⟨g,0,none⟩ a').setCell ⟨g,1,none⟩ b').setCell ⟨g,2,none⟩ c').cell? ⟨g,2,none⟩=some c':=
 ⟨(h.set_ 0 a').cell 0,((h.set_ 0 a').set_ 1 b').cell 1,(((h.set_ 0 a').set_ 1 b').set_ 2 c').cell 2⟩
theorem BH.put{w w1 w':World}{g:Nat}{bi:Bool}{m d:Value}{p:Int}{q:Nat}(hi:BH w1.heap.size w' (.agg #[.bool bi,m,d]) p q)(hg:g<w1.heap.size)(hw:w.heap.size<=w1.heap.size):
  BH w.heap.size (((w'.setCell ⟨g,0,none⟩ (.bool bi)).setCell ⟨g,1,none⟩ m).setCell ⟨g,2,none⟩ d) (.agg #[.bool bi,m,d]) p q:=(((hi.far hg _).far hg _).far hg _).mono hw
theorem BH.zero(B:Nat)(w:World):BH B w (.agg #[.bool false,.slice none 0 0,.slice none 0 0]) 0 0:=⟨_,_,rfl,Own.none_ _ _,Own.none_ _ _⟩
end Big
end Go.Proofs.YtkoaogkknnelaaaGreatDoor
