import Derived.Test.YtkoaogkknnelaaaGreatDoorM11
set_option linter.unusedVariables false
set_option linter.unusedSimpArgs false
set_option maxRecDepth 100000
namespace Go.Proofs.YtkoaogkknnelaaaGreatDoor
namespace Big
open Lib renaming hid → J
open Go.RowKit
theorem FL(l:List UInt8)(a i:Nat):Af (l.drop a) i=Af l (a+i):=by
 unfold Af;rw[qaa,qaa,List.getElem?_drop]
theorem LX(l:List UInt8):C9 l=(!(l == []) && decide (l.length<=24) && Ee (Af l 0) && l.all (fun c=>BX c.toNat)):=rfl
theorem J2{l:List UInt8}{i:Nat}(h:i<l.length)(hf:BX (Af l i)=false):l.all (fun c=>BX c.toNat)=false:=by
 rw[List.all_eq_false];exact⟨l[i],qaw h,by rw[<-BG l i h,hf];simp⟩
theorem Ko{l:List UInt8}(h:∀i,i<l.length->BX (Af l i)=true):l.all (fun c=>BX c.toNat)=true:=by
 rw[qbR];intro c hc;obtain⟨i,hi,rfl⟩:=qbP hc;rw[<-BG l i hi];exact h i hi
theorem LW(w:World)(l:List UInt8)(hl:l.length<=1073741824):Calls Tryz.prog 94 #[str l] w fun e w'=>e= .returned (.bool (C9 l))/\w=w':=by
 have H:=J (LX l);rcases qag l.length with h0|h0
 ·obtain rfl:l=[]:=qap h0;have HR:Hid (C9 []=false):=J rfl;have he:(([]:List UInt8) == [])=true:=rfl;clear h0 H;go_enter Tryz.func94,Tryz.ntmps94;go_wp2_with fail;go_ret;rw[HR.o];exact⟨rfl,rfl⟩
 ·have he:(l == [])=false:=by cases l<;>simp_all
  have h0i:(0:Int)<(l.length:Int):=by omega
  rcases qah 24 l.length with h24|h24
  ·have HR:Hid (C9 l=false):=J (by rw[H.o,decide_eq_false (by omega)];simp);have hd:(24:Int)<(l.length:Int):=by omega
   clear H h0 h24;go_enter Tryz.func94,Tryz.ntmps94;go_wp2_with fail;go_ret;rw[HR.o];exact⟨rfl,rfl⟩
  ·have hd:¬(24:Int)<(l.length:Int):=by omega
   have eH:decide ((24:Int)<(l.length:Int))=false:=by simp;omega
   have fd:=CR l 0;have dH:=J (fun W=>GX W (Af l 0) fd);cases hlet:Ee (Af l 0)
   ·have HR:Hid (C9 l=false):=J (by rw[H.o,hlet];simp);rw[hlet]at dH;clear H h0 h24 hlet;go_enter Tryz.func94,Tryz.ntmps94;go_wp2_with fail;refine(dH.o _).mono ?_
    rintro e w1 ⟨rfl,rfl⟩;go_wp2_with fail;go_ret;rw[HR.o];exact⟨rfl,rfl⟩
   ·have HR:Hid (C9 l=l.all (fun c=>BX c.toNat)):=J (by rw[H.o,hlet,he,decide_eq_true h24];simp);rw[hlet]at dH;clear H hlet;go_enter Tryz.func94,Tryz.ntmps94;go_wp2_with fail;refine(dH.o _).mono ?_
    rintro e w1 ⟨rfl,rfl⟩;go_wp2_with fail
    go_loop [19] (fun s=>∃i:Nat,i<=l.length/\s= .int .i64 (i:Int)/\Hid (∀j,j<i->BX (Af l j)=true)) (fun s=>l.length-(intOf s).toNat)
    case atStart=>exact⟨0,qaj _,rfl,J (fun j hj=>by omega)⟩
    case round=>
     obtain⟨i,hi,rfl,HA⟩:=hrel;by_cases hlt:i<l.length
     ·have VO:=CR l i;have HC:=J (fun W=>Ol W (Af l i) VO);cases hw:BX (Af l i)
      ·have HF:Hid (C9 l=false):=J (by rw[HR.o];exact J2 hlt hw);rw[hw]at HC;clear hw;go_wp2_with fail;refine(HC.o _).mono ?_
       rintro e w1 ⟨rfl,rfl⟩;go_wp2_with fail;go_ret;rw[HF.o];exact⟨rfl,rfl⟩
      ·have HN:Hid (∀j,j<i+1->BX (Af l j)=true):=J (fun j hj=>by
        rcases qah j i with h1|h1
        ·exact HA.o j h1
        ·obtain rfl:j=i:=by omega
         exact hw)
       rw[hw]at HC;clear hw;go_wp2_with fail;refine(HC.o _).mono ?_
       rintro e w1 ⟨rfl,rfl⟩;go_wp2_with fail
       go_round
       case rel=>exact⟨i+1,by omega,by go_num,HN⟩
       case measure=>simp[intOf];omega
     ·obtain rfl:i=l.length:=by omega
      have HF:Hid (C9 l=true):=J (by rw[HR.o];exact Ko HA.o);go_wp2_with fail;go_ret;rw[HF.o];exact⟨rfl,rfl⟩
def BL:List (List UInt8):=[[112,105],[101],[115,113,114,116],[101,120,112],[108,110],[115,105,110],[99,111,115],[97,116,97,110]]
def BD(l:List UInt8):Nat:=if l=[115,113,114,116] then 11 else if l=[101,120,112] then 12 else if l=[108,110] then 13 else if l=[115,105,110] then 14 else if l=[99,111,115] then 15 else if l=[97,116,97,110] then 16 else 0
def Bn(l:List UInt8):Bool:=l == [112,105] || l == [101] || BD l != 0
theorem LI(w:World)(l:List UInt8):Calls Tryz.prog 152 #[str l] w fun e w'=>e= .returned (.int .i64 (BD l:Int))/\w=w':=by
 have H:Hid (BD l=if l=[115,113,114,116] then 11 else if l=[101,120,112] then 12 else if l=[108,110] then 13 else if l=[115,105,110] then 14 else if l=[99,111,115] then 15 else if l=[97,116,97,110] then 16 else 0):=J rfl;by_cases h0:l=[115,113,114,116]
 ·have HR:Hid (BD l=11):=J (by rw[H.o,if_pos h0]);have b0:(l == [115,113,114,116])=true:=by rw[beq_iff_eq];exact h0
  clear H h0;go_enter Tryz.func152,Tryz.ntmps152;go_wp2_with fail;go_ret;rw[HR.o];exact⟨rfl,rfl⟩
 by_cases h1:l=[101,120,112]
 ·have HR:Hid (BD l=12):=J (by rw[H.o,if_neg h0,if_pos h1]);have b0:(l == [115,113,114,116])=false:=by rw[beq_eq_false_iff_ne];exact h0
  have b1:(l == [101,120,112])=true:=by rw[beq_iff_eq];exact h1
  clear H h0 h1;go_enter Tryz.func152,Tryz.ntmps152;go_wp2_with fail;go_ret;rw[HR.o];exact⟨rfl,rfl⟩
 by_cases h2:l=[108,110]
 ·have HR:Hid (BD l=13):=J (by rw[H.o,if_neg h0,if_neg h1,if_pos h2]);have b0:(l == [115,113,114,116])=false:=by rw[beq_eq_false_iff_ne];exact h0
  have b1:(l == [101,120,112])=false:=by rw[beq_eq_false_iff_ne];exact h1
  have b2:(l == [108,110])=true:=by rw[beq_iff_eq];exact h2
  clear H h0 h1 h2;go_enter Tryz.func152,Tryz.ntmps152;go_wp2_with fail;go_ret;rw[HR.o];exact⟨rfl,rfl⟩
 by_cases h3:l=[115,105,110]
 ·have HR:Hid (BD l=14):=J (by rw[H.o,if_neg h0,if_neg h1,if_neg h2,if_pos h3]);have b0:(l == [115,113,114,116])=false:=by rw[beq_eq_false_iff_ne];exact h0
  have b1:(l == [101,120,112])=false:=by rw[beq_eq_false_iff_ne];exact h1
  have b2:(l == [108,110])=false:=by rw[beq_eq_false_iff_ne];exact h2
  have b3:(l == [115,105,110])=true:=by rw[beq_iff_eq];exact h3
  clear H h0 h1 h2 h3;go_enter Tryz.func152,Tryz.ntmps152;go_wp2_with fail;go_ret;rw[HR.o];exact⟨rfl,rfl⟩
 by_cases h4:l=[99,111,115]
 ·have HR:Hid (BD l=15):=J (by rw[H.o,if_neg h0,if_neg h1,if_neg h2,if_neg h3,if_pos h4]);have b0:(l == [115,113,114,116])=false:=by rw[beq_eq_false_iff_ne];exact h0
  have b1:(l == [101,120,112])=false:=by rw[beq_eq_false_iff_ne];exact h1
  have b2:(l == [108,110])=false:=by rw[beq_eq_false_iff_ne];exact h2
  have b3:(l == [115,105,110])=false:=by rw[beq_eq_false_iff_ne];exact h3
  have b4:(l == [99,111,115])=true:=by rw[beq_iff_eq];exact h4
  clear H h0 h1 h2 h3 h4;go_enter Tryz.func152,Tryz.ntmps152;go_wp2_with fail;go_ret;rw[HR.o];exact⟨rfl,rfl⟩
 by_cases h5:l=[97,116,97,110]
 ·have HR:Hid (BD l=16):=J (by rw[H.o,if_neg h0,if_neg h1,if_neg h2,if_neg h3,if_neg h4,if_pos h5]);have b0:(l == [115,113,114,116])=false:=by rw[beq_eq_false_iff_ne];exact h0
  have b1:(l == [101,120,112])=false:=by rw[beq_eq_false_iff_ne];exact h1
  have b2:(l == [108,110])=false:=by rw[beq_eq_false_iff_ne];exact h2
  have b3:(l == [115,105,110])=false:=by rw[beq_eq_false_iff_ne];exact h3
  have b4:(l == [99,111,115])=false:=by rw[beq_eq_false_iff_ne];exact h4
  have b5:(l == [97,116,97,110])=true:=by rw[beq_iff_eq];exact h5
  clear H h0 h1 h2 h3 h4 h5;go_enter Tryz.func152,Tryz.ntmps152;go_wp2_with fail;go_ret;rw[HR.o];exact⟨rfl,rfl⟩
 have HR:Hid (BD l=0):=J (by rw[H.o,if_neg h0,if_neg h1,if_neg h2,if_neg h3,if_neg h4,if_neg h5]);have b0:(l == [115,113,114,116])=false:=by rw[beq_eq_false_iff_ne];exact h0
 have b1:(l == [101,120,112])=false:=by rw[beq_eq_false_iff_ne];exact h1
 have b2:(l == [108,110])=false:=by rw[beq_eq_false_iff_ne];exact h2
 have b3:(l == [115,105,110])=false:=by rw[beq_eq_false_iff_ne];exact h3
 have b4:(l == [99,111,115])=false:=by rw[beq_eq_false_iff_ne];exact h4
 have b5:(l == [97,116,97,110])=false:=by rw[beq_eq_false_iff_ne];exact h5
 clear H h0 h1 h2 h3 h4 h5;go_enter Tryz.func152,Tryz.ntmps152;go_wp2_with fail;go_ret;rw[HR.o];exact⟨rfl,rfl⟩
theorem GG(w:World)(l:List UInt8):Calls Tryz.prog 95 #[str l] w fun e w'=>e= .returned (.bool (Bn l))/\w=w':=by
 have H:Hid (Bn l=(l == [112,105] || l == [101] || BD l != 0)):=J rfl;have HF:=J (fun W=>LI W l);cases b0:(l == [112,105])
 ·cases b1:(l == [101])
  ·have hk:((BD l:Int) != 0)=(BD l != 0):=by rw[qaM];simp
   cases b2:(BD l != 0)
   all_goals
    rw[b2]at hk;rw[b0,b1,b2]at H;clear b2;go_enter Tryz.func95,Tryz.ntmps95;go_wp2_with fail;refine(HF.o _).mono ?_
    rintro e w1 ⟨rfl,rfl⟩;go_wp2_with fail;go_ret;rw[H.o];exact⟨rfl,rfl⟩
  ·rw[b0,b1]at H;go_enter Tryz.func95,Tryz.ntmps95;go_wp2_with fail;go_ret;rw[H.o];exact⟨rfl,rfl⟩
 ·rw[b0]at H;go_enter Tryz.func95,Tryz.ntmps95;go_wp2_with fail;go_ret;rw[H.o];exact⟨rfl,rfl⟩
theorem Kp(w:World):Calls Tryz.prog 197 #[] w fun e w'=>∃v,e= .returned v/\Q5 w.heap.size w' v BL/\Ext w w':=by
 go_enter Tryz.func197,Tryz.ntmps197;go_wp2_with fail;go_ret;exact⟨_,rfl,Q5.block (ls:=BL) (Blk.new w 9 _) (qab _) (by decide),(Ext.refl w).alloc _⟩
theorem CB(l:List UInt8):Bn l=BL.contains l:=by
 have h:Bn l=(l == [112,105] || l == [101] || l == [115,113,114,116] || l == [101,120,112] || l == [108,110] || l == [115,105,110] || l == [99,111,115] || l == [97,116,97,110]):=by
  unfold Bn;by_cases h0:l=[115,113,114,116]
  ·subst h0;rfl
  by_cases h1:l=[101,120,112]
  ·subst h1;rfl
  by_cases h2:l=[108,110]
  ·subst h2;rfl
  by_cases h3:l=[115,105,110]
  ·subst h3;rfl
  by_cases h4:l=[99,111,115]
  ·subst h4;rfl
  by_cases h5:l=[97,116,97,110]
  ·subst h5;rfl
  unfold BD;rw[if_neg h0,if_neg h1,if_neg h2,if_neg h3,if_neg h4,if_neg h5];rw[beq_false_of_ne h0,beq_false_of_ne h1,beq_false_of_ne h2,beq_false_of_ne h3,beq_false_of_ne h4,beq_false_of_ne h5];simp only[qbv];simp
 rw[h,qaM];unfold BL;simp[or_assoc]
theorem Sz(l:List UInt8)(j:Nat)(hj:j<BL.length)(h1:1<j)(h:l=BL[j]):BD l=11+j-2:=by
 subst h;have:j=2\/j=3\/j=4\/j=5\/j=6\/j=7:=by
  have:BL.length=8:=rfl;omega
 rcases this with rfl|rfl|rfl|rfl|rfl|rfl<;>rfl
theorem Oo(l:List UInt8)(h:∀j (hj:j<BL.length),1<j->l≠BL[j]):BD l=0:=by
 have h2:l≠[115,113,114,116]:=h 2 (by decide) (by decide);have h3:l≠[101,120,112]:=h 3 (by decide) (by decide);have h4:l≠[108,110]:=h 4 (by decide) (by decide);have h5:l≠[115,105,110]:=h 5 (by decide) (by decide);have h6:l≠[99,111,115]:=h 6 (by decide) (by decide);have h7:l≠[97,116,97,110]:=h 7 (by decide) (by decide);unfold BD;rw[if_neg h2,if_neg h3,if_neg h4,if_neg h5,if_neg h6,if_neg h7]
theorem Kg(w:World)(l:List UInt8):Calls Tryz.prog 156 #[str l] w fun e w'=>e= .returned (.bool (Bn l))/\Ext w w':=by
 have HW:=J (fun W=>Kp W);go_enter Tryz.func156,Tryz.ntmps156;go_wp2_with fail;refine(HW.o _).mono ?_
 rintro e w1 ⟨v1,rfl,ho,hx⟩;have HX:=J hx;obtain⟨A,c,rfl,hc,hm,aa⟩:=ho.arr.open;obtain⟨b,o,rfl,hb,aa⟩:=aa (by decide);have HC:=J aa;have sG:BL.length=8:=rfl;have t6:=J sG;rw[sG]at hc ⊢;clear sG ho hx aa;unfold maxLen at hm;go_wp2_with fail
 go_loop [7] (fun s=>∃i:Nat,i<=8/\s= .int .i64 (i:Int)/\Hid (∀j (hj:j<BL.length),j<i->l≠BL[j])) (fun s=>8-(intOf s).toNat)
 case atStart=>exact⟨0,qaj _,rfl,J (fun j hj h=>by omega)⟩
 case round=>
  obtain⟨i,hi,rfl,HN⟩:=hrel;by_cases hlt:i<8
  ·have fA:i<BL.length:=by rw[t6.o];exact hlt
   have hx:=HC.o i fA;by_cases he:l=BL[i]
   ·have HR:Hid (Bn l=true):=J (by rw[CB,List.contains_iff_mem,he];exact qaw fA);generalize BL[i]=m at *;have iP:(l == m)=true:=by rw[beq_iff_eq];exact he
    clear he;go_wp2_with fail;go_ret;rw[HR.o];exact⟨rfl,HX.o⟩
   ·have eP:Hid (∀j (hj:j<BL.length),j<i+1->l≠BL[j]):=J (fun j hj h=>by
     rcases qah j i with h1|h1
     ·exact HN.o j hj h1
     ·obtain rfl:j=i:=by omega
      exact he)
    generalize BL[i]=m at *;have iP:(l == m)=false:=by rw[beq_eq_false_iff_ne];exact he
    clear he;go_wp2_with fail
    go_round
    case rel=>exact⟨i+1,by omega,by go_num,eP⟩
    case measure=>simp[intOf];omega
  ·obtain rfl:i=8:=by omega
   have HR:Hid (Bn l=false):=J (by
    rw[CB,Bool.eq_false_iff];intro vT;rw[List.contains_iff_mem]at vT;obtain⟨j,hj,e⟩:=qbP vT;exact HN.o j hj (by have:=t6.o;omega) e.symm)
   go_wp2_with fail;go_ret;rw[HR.o];exact⟨rfl,HX.o⟩
theorem F5(w:World)(l:List UInt8):Calls Tryz.prog 267 #[str l] w fun e w'=>e= .returned (.int .i64 (BD l:Int))/\Ext w w':=by
 have HW:=J (fun W=>Kp W);go_enter Tryz.func267,Tryz.ntmps267;go_wp2_with fail;refine(HW.o _).mono ?_
 rintro e w1 ⟨v1,rfl,ho,hx⟩;have HX:=J hx;obtain⟨A,c,rfl,hc,hm,aa⟩:=ho.arr.open;obtain⟨b,o,rfl,hb,aa⟩:=aa (by decide);have HC:=J aa;have sG:BL.length=8:=rfl;have t6:=J sG;rw[sG]at hc ⊢;clear sG ho hx aa;unfold maxLen at hm;go_wp2_with fail
 go_loop [7] (fun s=>∃i:Nat,i<=8/\s= .int .i64 (i:Int)/\Hid (∀j (hj:j<BL.length),1<j->j<i->l≠BL[j])) (fun s=>8-(intOf s).toNat)
 case atStart=>exact⟨0,qaj _,rfl,J (fun j hj _ h=>by omega)⟩
 case round=>
  obtain⟨i,hi,rfl,HN⟩:=hrel;by_cases hlt:i<8
  ·have fA:i<BL.length:=by rw[t6.o];exact hlt
   have hx:=HC.o i fA;have kl:=J (Sz l i fA);have eP:Hid ((1<i->l≠BL[i])->∀j (hj:j<BL.length),1<j->j<i+1->l≠BL[j]):=J (fun he j hj h0 h=>by
    rcases qah j i with h1|h1
    ·exact HN.o j hj h0 h1
    ·obtain rfl:j=i:=by omega
     exact he h0)
   generalize BL[i]=m at *;by_cases h1:1<i
   ·have h1':(1:Int)<(i:Int):=by omega
    by_cases he:l=m
    ·have HR:=J (kl.o h1 he);have iP:(l == m)=true:=by rw[beq_iff_eq];exact he
     clear he;go_wp2_with fail;go_ret;exact⟨congrArg (fun z=>Ending.returned (.int .i64 z)) (by rw[HR.o];omega),HX.o⟩
    ·have tY:=J (eP.o (fun _=>he));have iP:(l == m)=false:=by rw[beq_eq_false_iff_ne];exact he
     clear he;go_wp2_with fail
     go_round
     case rel=>exact⟨i+1,by omega,by go_num,tY⟩
     case measure=>simp[intOf];omega
   ·have tY:=J (eP.o (fun h=>absurd h h1));have h1':¬(1:Int)<(i:Int):=by omega
    go_wp2_with fail
    go_round
    case rel=>exact⟨i+1,by omega,by go_num,tY⟩
    case measure=>simp[intOf];omega
  ·obtain rfl:i=8:=by omega
   have HR:Hid (BD l=0):=J (Oo l (fun j hj h0=>HN.o j hj h0 (by have:=t6.o;omega)));go_wp2_with fail;go_ret;rw[HR.o];exact⟨rfl,HX.o⟩
def Bq(l:List UInt8):Nat:=if Ee (Af l 0) then Ao BX l else 0
def DR(l:List UInt8)(i:Nat):Bool:=Ee (Af l i) || (decide (0<i) && (Dl (Af l i) || Af l i == 95))
theorem Ge{p:Nat->Bool}{l:List UInt8}(h:0<l.length)(hp:p (Af l 0)=true):0<Ao p l:=by
 cases l with
 |nil=>simp at h
 |cons c t=>
  have hc:p c.toNat=true:=hp;rw[Ao,if_pos hc];omega
theorem Ky{p:Nat->Bool}{l:List UInt8}{i:Nat}(h:i<Ao p l):p (Af l i)=true:=by
 obtain⟨h1,h2⟩:=Hv p l i h;rw[BG l i h1];exact h2
theorem Jl{p:Nat->Bool}{l:List UInt8}(h:Ao p l<l.length):p (Af l (Ao p l))=false:=by
 rw[BG l _ h];exact NE p l h
theorem NT(l:List UInt8):Bq l<=l.length:=by
 unfold Bq;split
 ·exact Dq _ _
 ·exact qaj _
theorem NU{l:List UInt8}{i:Nat}(hi:i<=Bq l)(hl:i<l.length):(DR l i=true/\i<Bq l)\/(DR l i=false/\i=Bq l):=by
 have hw:BX (Af l i)=(Ee (Af l i) || Dl (Af l i) || Af l i == 95):=rfl;unfold Bq at hi ⊢;cases h0:Ee (Af l 0)
 ·rw[h0]at hi;simp only[qbk,if_false]at hi ⊢;obtain rfl:i=0:=by omega
  exact .inr ⟨by unfold DR;rw[h0];rfl,rfl⟩
 ·rw[h0]at hi;simp only[if_true]at hi ⊢;rcases qag i with hz|hz
  ·subst hz;exact .inl ⟨by unfold DR;rw[h0];rfl,Ge hl (by unfold BX;rw[h0];rfl)⟩
  ·have hg:DR l i=BX (Af l i):=by unfold DR;rw[hw,decide_eq_true hz,qaE,Bool.or_assoc]
   rcases qah i (Ao BX l) with h1|h1
   ·exact .inl ⟨by rw[hg];exact Ky h1,h1⟩
   ·have:i=Ao BX l:=by omega
    subst this;exact .inr ⟨by rw[hg];exact Jl hl,rfl⟩
theorem Uz{l:List UInt8}{i:Nat}(hi:i<=Ao Cx l)(hl:i<l.length):(Cx (Af l i)=true/\i<Ao Cx l)\/(Cx (Af l i)=false/\i=Ao Cx l):=by
 rcases qah i (Ao Cx l) with h1|h1
 ·exact .inl ⟨Ky h1,h1⟩
 ·have:i=Ao Cx l:=by omega
  subst this;exact .inr ⟨Jl hl,rfl⟩
theorem T6(p:Nat->Bool)(l:List UInt8):l.all (fun c=>p c.toNat)=decide (Ao p l=l.length):=by
 induction l with
 |nil=>rfl
 |cons c t ih=>
  rw[qcc,ih,Ao];cases hc:p c.toNat
  ·simp
  ·have:(Ao p t+1=(c::t).length)↔(Ao p t=t.length):=by simp
   simp
theorem Kq(l:List UInt8):C9 l=(!(l == []) && (decide (l.length<=24) && decide (Bq l=l.length))):=by
 rcases qag l.length with h0|h0
 ·obtain rfl:l=[]:=qap h0;rfl
 ·rw[LX,T6];unfold Bq;cases h1:Ee (Af l 0)
  ·have:¬(0=l.length):=by omega
   simp[this]
  ·simp[Bool.and_assoc]
theorem Kx(w:World)(l:List UInt8)(hl:l.length<=1073741824):Calls Tryz.prog 123 #[str l] w fun e w'=>e= .returned (.int .i64 (Bq l:Int))/\w=w':=by
 have cH:=NT l;go_enter Tryz.func123,Tryz.ntmps123;go_wp2_with fail
 go_loop [3] (fun s=>∃i:Nat,i<=Bq l/\s= .int .i64 (i:Int)) (fun s=>l.length-(intOf s).toNat)
 case atStart=>exact⟨0,qaj _,rfl⟩
 case round=>
  obtain⟨i,hi,rfl⟩:=hrel;by_cases hlt:i<l.length
  ·have fO:=J (NU hi hlt);have fd:=CR l i;have dH:=J (fun W=>Ip W (Af l i) fd);have ko:=J (fun W=>Gf W (Af l i) fd);have wT:(Af l i == 95)=((Af l i:Int) == 95):=by rw[qaM];simp;omega
   have Zz:=J wT;clear wT;cases hlet:Ee (Af l i)
   ·rcases qag i with hz|hz
    ·have HG:Hid (DR l i=false):=J (by unfold DR;rw[hlet,hz];rfl);have pD:¬(0:Int)<(i:Int):=by omega
     have uu:decide ((0:Int)<(i:Int))=false:=by simp;omega
     rw[hlet]at dH;clear hlet hz;go_wp2_with fail;refine(dH.o _).mono ?_
     rintro e w1 ⟨rfl,rfl⟩;have HN:Hid (i=Bq l):=J (by
      rcases fO.o with ⟨h,_⟩|⟨_,h⟩
      ·rw[HG.o]at h;cases h
      ·exact h)
     go_wp2_with fail;go_ret;exact⟨by rw[<-HN.o];rfl,rfl⟩
    ·have pD:(0:Int)<(i:Int):=by omega
     have uu:decide ((0:Int)<(i:Int))=true:=by rw[decide_eq_true_iff];omega
     cases hdig:Dl (Af l i)
     ·cases h95:((Af l i:Int) == 95)
      ·have HG:Hid (DR l i=false):=J (by unfold DR;rw[hlet,hdig,Zz.o,h95];simp);rw[hlet]at dH;rw[hdig]at ko;clear hlet hz hdig;go_wp2_with fail;refine(dH.o _).mono ?_
       rintro e w1 ⟨rfl,rfl⟩;go_wp2_with fail;refine(ko.o _).mono ?_
       rintro e w1 ⟨rfl,rfl⟩;have HN:Hid (i=Bq l):=J (by
        rcases fO.o with ⟨h,_⟩|⟨_,h⟩
        ·rw[HG.o]at h;cases h
        ·exact h)
       go_wp2_with fail;go_ret;exact⟨by rw[<-HN.o];rfl,rfl⟩
      ·have HG:Hid (DR l i=true):=J (by unfold DR;rw[hlet,hdig,Zz.o,h95];simp;omega);rw[hlet]at dH;rw[hdig]at ko;clear hlet hz hdig;go_wp2_with fail;refine(dH.o _).mono ?_
       rintro e w1 ⟨rfl,rfl⟩;go_wp2_with fail;refine(ko.o _).mono ?_
       rintro e w1 ⟨rfl,rfl⟩;have HN:Hid (i+1<=Bq l):=J (by
        rcases fO.o with ⟨_,h⟩|⟨h,_⟩
        ·exact h
        ·rw[HG.o]at h;cases h)
       go_wp2_with fail
       go_round
       case rel=>exact⟨i+1,HN.o,by go_num⟩
       case measure=>simp[intOf];omega
     ·have HG:Hid (DR l i=true):=J (by unfold DR;rw[hlet,hdig];simp;omega);rw[hlet]at dH;rw[hdig]at ko;clear hlet hz hdig;go_wp2_with fail;refine(dH.o _).mono ?_
      rintro e w1 ⟨rfl,rfl⟩;go_wp2_with fail;refine(ko.o _).mono ?_
      rintro e w1 ⟨rfl,rfl⟩;have HN:Hid (i+1<=Bq l):=J (by
       rcases fO.o with ⟨_,h⟩|⟨h,_⟩
       ·exact h
       ·rw[HG.o]at h;cases h)
      go_wp2_with fail
      go_round
      case rel=>exact⟨i+1,HN.o,by go_num⟩
      case measure=>simp[intOf];omega
   ·have HG:Hid (DR l i=true):=J (by unfold DR;rw[hlet];rfl);rw[hlet]at dH;clear hlet;go_wp2_with fail;refine(dH.o _).mono ?_
    rintro e w1 ⟨rfl,rfl⟩;have HN:Hid (i+1<=Bq l):=J (by
     rcases fO.o with ⟨_,h⟩|⟨h,_⟩
     ·exact h
     ·rw[HG.o]at h;cases h)
    go_wp2_with fail
    go_round
    case rel=>exact⟨i+1,HN.o,by go_num⟩
    case measure=>simp[intOf];omega
  ·have HN:Hid (i=Bq l):=J (by omega);go_wp2_with fail;go_ret;exact⟨by rw[<-HN.o];rfl,rfl⟩
theorem PZ(w:World)(l:List UInt8)(hl:l.length<=1073741824):Calls Tryz.prog 155 #[str l] w fun e w'=>e= .returned (.bool (C9 l))/\w=w':=by
 have H:=J (Kq l);have HR:=J (fun W=>Kx W l hl);cases h0:(l == [])
 ·by_cases h24:l.length<=24
  ·have hd:decide ((l.length:Int)<=24)=true:=by rw[decide_eq_true_iff];omega
   have eH:(l.length:Int)<=24:=by omega
   have he:((Bq l:Int) == (l.length:Int))=decide (Bq l=l.length):=by rw[qaM];simp;omega
   rw[h0,decide_eq_true h24]at H;cases h1:decide (Bq l=l.length)
   all_goals
    rw[h1]at he;rw[h1]at H;clear h1;generalize Bq l=r at *;go_enter Tryz.func155,Tryz.ntmps155;go_wp2_with fail;refine(HR.o _).mono ?_
    rintro e w1 ⟨rfl,rfl⟩;go_wp2_with fail;go_ret;rw[H.o];exact⟨rfl,rfl⟩
  ·have hd:decide ((l.length:Int)<=24)=false:=by simp;omega
   have eH:¬(l.length:Int)<=24:=by omega
   rw[h0,decide_eq_false h24]at H;clear h24;go_enter Tryz.func155,Tryz.ntmps155;go_wp2_with fail;go_ret;rw[H.o];exact⟨rfl,rfl⟩
 ·rw[h0]at H;go_enter Tryz.func155,Tryz.ntmps155;go_wp2_with fail;go_ret;rw[H.o];exact⟨rfl,rfl⟩
theorem Mf(w:World)(l:List UInt8)(hl:l.length<=1073741824):Calls Tryz.prog 125 #[str l] w fun e w'=>e= .returned (.int .i64 (Ao Cx l:Int))/\w=w':=by
 have cH:=Dq Cx l;go_enter Tryz.func125,Tryz.ntmps125;go_wp2_with fail
 go_loop [3] (fun s=>∃i:Nat,i<=Ao Cx l/\s= .int .i64 (i:Int)) (fun s=>l.length-(intOf s).toNat)
 case atStart=>exact⟨0,qaj _,rfl⟩
 case round=>
  obtain⟨i,hi,rfl⟩:=hrel;by_cases hlt:i<l.length
  ·have fO:=J (Uz hi hlt);have fd:=CR l i;have ko:=J (fun W=>Gf W (Af l i) fd);have wV:(Af l i == 46)=((Af l i:Int) == 46):=by rw[qaM];simp;omega
   have ZA:=J wV;clear wV;cases hdig:Dl (Af l i)
   ·rw[hdig]at ko;cases h46:((Af l i:Int) == 46)
    ·have HG:Hid (Cx (Af l i)=false):=J (by unfold Cx;rw[hdig,ZA.o,h46];rfl);clear hdig;go_wp2_with fail;refine(ko.o _).mono ?_
     rintro e w1 ⟨rfl,rfl⟩;have HN:Hid (i=Ao Cx l):=J (by
      rcases fO.o with ⟨h,_⟩|⟨_,h⟩
      ·rw[HG.o]at h;cases h
      ·exact h)
     go_wp2_with fail;go_ret;exact⟨by rw[<-HN.o];rfl,rfl⟩
    ·have HG:Hid (Cx (Af l i)=true):=J (by unfold Cx;rw[hdig,ZA.o,h46];rfl);clear hdig;go_wp2_with fail;refine(ko.o _).mono ?_
     rintro e w1 ⟨rfl,rfl⟩;have HN:Hid (i+1<=Ao Cx l):=J (by
      rcases fO.o with ⟨_,h⟩|⟨h,_⟩
      ·exact h
      ·rw[HG.o]at h;cases h)
     go_wp2_with fail
     go_round
     case rel=>exact⟨i+1,HN.o,by go_num⟩
     case measure=>simp[intOf];omega
   ·have HG:Hid (Cx (Af l i)=true):=J (by unfold Cx;rw[hdig];rfl);rw[hdig]at ko;clear hdig;go_wp2_with fail;refine(ko.o _).mono ?_
    rintro e w1 ⟨rfl,rfl⟩;have HN:Hid (i+1<=Ao Cx l):=J (by
     rcases fO.o with ⟨_,h⟩|⟨h,_⟩
     ·exact h
     ·rw[HG.o]at h;cases h)
    go_wp2_with fail
    go_round
    case rel=>exact⟨i+1,HN.o,by go_num⟩
    case measure=>simp[intOf];omega
  ·have HN:Hid (i=Ao Cx l):=J (by omega);go_wp2_with fail;go_ret;exact⟨by rw[<-HN.o];rfl,rfl⟩
theorem PJ(w:World)(n:Nat)(_hn:n<256):Calls Tryz.prog 127 #[.int .u8 (n:Int)] w fun e w'=>e= .returned (.bool (F4 n))/\w=w':=by
 have hc:∀k:Nat,(n == k)=((n:Int) == (k:Int)):=fun k=>by rw[qaM];simp;omega
 have H:Hid (F4 n=((n:Int) == 43 || (n:Int) == 45 || (n:Int) == 42 || (n:Int) == 47 || (n:Int) == 94 || (n:Int) == 40 || (n:Int) == 41)):=J (by
  unfold F4;rw[hc 43,hc 45,hc 42,hc 47,hc 94,hc 40,hc 41];rfl)
 clear hc;cases b0:((n:Int) == 43)
 ·skip
  cases b1:((n:Int) == 45)
  ·skip
   cases b2:((n:Int) == 42)
   ·skip
    cases b3:((n:Int) == 47)
    ·skip
     cases b4:((n:Int) == 94)
     ·skip
      cases b5:((n:Int) == 40)
      ·skip
       cases b6:((n:Int) == 41)
       ·skip
        rw[b0,b1,b2,b3,b4,b5,b6]at H;go_enter Tryz.func127,Tryz.ntmps127;go_wp2_with fail;go_ret;rw[H.o];exact⟨rfl,rfl⟩
       ·skip
        rw[b0,b1,b2,b3,b4,b5,b6]at H;go_enter Tryz.func127,Tryz.ntmps127;go_wp2_with fail;go_ret;rw[H.o];exact⟨rfl,rfl⟩
      ·skip
       rw[b0,b1,b2,b3,b4,b5]at H;go_enter Tryz.func127,Tryz.ntmps127;go_wp2_with fail;go_ret;rw[H.o];exact⟨rfl,rfl⟩
     ·skip
      rw[b0,b1,b2,b3,b4]at H;go_enter Tryz.func127,Tryz.ntmps127;go_wp2_with fail;go_ret;rw[H.o];exact⟨rfl,rfl⟩
    ·skip
     rw[b0,b1,b2,b3]at H;go_enter Tryz.func127,Tryz.ntmps127;go_wp2_with fail;go_ret;rw[H.o];exact⟨rfl,rfl⟩
   ·skip
    rw[b0,b1,b2]at H;go_enter Tryz.func127,Tryz.ntmps127;go_wp2_with fail;go_ret;rw[H.o];exact⟨rfl,rfl⟩
  ·skip
   rw[b0,b1]at H;go_enter Tryz.func127,Tryz.ntmps127;go_wp2_with fail;go_ret;rw[H.o];exact⟨rfl,rfl⟩
 ·skip
  rw[b0]at H;go_enter Tryz.func127,Tryz.ntmps127;go_wp2_with fail;go_ret;rw[H.o];exact⟨rfl,rfl⟩
theorem Cj(w:World)(neg:Bool)(v:Value)(xs:List Nat)(h:Arr w v xs)(hn:xs.length<=1073741824):
  Calls Tryz.prog 212 #[.bool neg,v] w fun e w'=>∃v',e= .returned v'/\AP w.heap.size w' v' (sgn neg (val xs))/\Ext w w':=by
 have HT:=J (fun W hx=>Bu W v xs (h.ext hx) hn);have ge:=J (L8 (val xs));have lM:=J (Kv (val xs));clear h;cases neg
 ·go_enter Tryz.func212,Tryz.ntmps212;go_wp2_with fail;refine(HT.o _ ((Ext.refl w).alloc _)).mono ?_
  rintro e w' ⟨v',rfl,ho,hx⟩;have HO:=J ho;obtain⟨A,c,hv,_⟩:=ho.2;rw[qas]at hv;subst hv;clear ho;have bW:=(Blk.new w 24 #[.bool false,.slice none 0 0]).ext hx;have hc0:w'.cell? ⟨w.heap.size,0,none⟩=some (.bool false):=bW.cell 0;have hc1:w'.cell? ⟨w.heap.size,1,none⟩=some (.slice none 0 0):=bW.cell 1;have hf0:=bW.frozen 0;have eG:=bW.frozen 1;have hz:=bW.lt;have HX:=J hx;have HB:=J bW;clear hx bW;go_wp2_with fail;obtain⟨ai,ac⟩:=B7 HB.o (.bool false) (.slice A (Ac (val xs)).length c);refine bodyPost_ret (v:= .agg #[.bool false,.slice A (Ac (val xs)).length c]) (by simp[results,Tryz.results212,go_sem,ai,ac]) rfl ?_
  exact⟨_,rfl,AP.laid HB.o HO.o (by simp) lM.o (((Ext.refl w).alloc _).trans HX.o) (qab _)⟩
 ·go_enter Tryz.func212,Tryz.ntmps212;go_wp2_with fail;refine(HT.o _ ((Ext.refl w).alloc _)).mono ?_
  rintro e w' ⟨v',rfl,ho,hx⟩;have HO:=J ho;obtain⟨A,c,hv,_⟩:=ho.2;rw[qas]at hv;subst hv;clear ho;have bW:=(Blk.new w 24 #[.bool false,.slice none 0 0]).ext hx;have hc0:w'.cell? ⟨w.heap.size,0,none⟩=some (.bool false):=bW.cell 0;have hc1:w'.cell? ⟨w.heap.size,1,none⟩=some (.slice none 0 0):=bW.cell 1;have hf0:=bW.frozen 0;have eG:=bW.frozen 1;have hz:=bW.lt;have HX:=J hx;have HB:=J bW;clear hx bW;go_wp2_with fail;obtain⟨ai,ac⟩:=B7 HB.o (.bool (decide (0<(Ac (val xs)).length))) (.slice A (Ac (val xs)).length c);refine bodyPost_ret (v:= .agg #[.bool (decide (0<(Ac (val xs)).length)),.slice A (Ac (val xs)).length c]) (by simp[results,Tryz.results212,go_sem,ai,ac]) rfl ?_
  exact⟨_,rfl,AP.laid HB.o HO.o (by simp) ge.o (((Ext.refl w).alloc _).trans HX.o) (qab _)⟩
theorem TF(w:World)(z:Int)(hz:z<0)(fS: -9223372036854775808<=z):
  Calls Tryz.prog 215 #[.int .i64 z] w fun e w'=>∃v',e= .returned v'/\AP w.heap.size w' v' z/\Ext w w':=by
 obtain⟨n,hn⟩:∃n:Nat,z= -((n:Int)+1):=⟨(-(z+1)).toNat,by omega⟩;subst hn;have vO:n+1<18446744073709551616:=by omega
 have HT:=J (fun W=>Gk W (n+1) vO);have ge:=J (show true=decide (sgn true (n+1)<0) by rw[IZ];simp);have fo:=J (show sgn true (n+1)= -((n:Int)+1) by unfold sgn;simp);have zN:(n:Int)<=9223372036854775807:=by omega
 have e1: -((n:Int)+1)+1= -(n:Int):=by omega
 clear vO;go_enter Tryz.func215,Tryz.ntmps215;go_wp2_with fail;have hx0:=(Ext.refl w).alloc (.cells #[.bool false,.slice none 0 0] 24);refine(HT.o _).mono ?_
 rintro e w1 ⟨v1,rfl,ho,hx⟩;have HO:=J ho;obtain⟨A1,c1,gD,_⟩:=ho.2;rw[qas]at gD;subst gD;clear ho;have bW:=(Blk.new w 24 #[.bool false,.slice none 0 0]).ext hx;have hc0:w1.cell? ⟨w.heap.size,0,none⟩=some (.bool false):=bW.cell 0;have hc1:w1.cell? ⟨w.heap.size,1,none⟩=some (.slice none 0 0):=bW.cell 1;have hf0:=bW.frozen 0;have eG:=bW.frozen 1;have bu:=bW.lt;have HX:=J (hx0.trans hx);have HB:=J bW;clear hx bW hx0;go_wp2_with fail;obtain⟨ai,ac⟩:=B7 HB.o (.bool true) (.slice A1 (Ac (n+1)).length c1);refine bodyPost_ret (v:= .agg #[.bool true,.slice A1 (Ac (n+1)).length c1]) (by simp[results,Tryz.results215,go_sem,ai,ac]) rfl ?_
 have dQ:=AP.laid HB.o HO.o (by simp) ge.o HX.o (qab _);rw[fo.o]at dQ;exact⟨_,rfl,dQ⟩
theorem TE(w:World)(n:Nat)(hn:n<9223372036854775808):
  Calls Tryz.prog 215 #[.int .i64 (n:Int)] w fun e w'=>∃v',e= .returned v'/\AP w.heap.size w' v' (n:Int)/\Ext w w':=by
 have HT:=J (fun W=>Gk W n (by omega));have ge:=J (show false=decide (sgn false n<0) by rw[IZ];simp);have fo:=J (show sgn false n=(n:Int) by unfold sgn;simp);have zN:(n:Int)<=9223372036854775807:=by omega
 clear hn;go_enter Tryz.func215,Tryz.ntmps215;go_wp2_with fail;have hx0:=(Ext.refl w).alloc (.cells #[.bool false,.slice none 0 0] 24);refine(HT.o _).mono ?_
 rintro e w1 ⟨v1,rfl,ho,hx⟩;have HO:=J ho;obtain⟨A1,c1,gD,_⟩:=ho.2;rw[qas]at gD;subst gD;clear ho;have bW:=(Blk.new w 24 #[.bool false,.slice none 0 0]).ext hx;have hc0:w1.cell? ⟨w.heap.size,0,none⟩=some (.bool false):=bW.cell 0;have hc1:w1.cell? ⟨w.heap.size,1,none⟩=some (.slice none 0 0):=bW.cell 1;have hf0:=bW.frozen 0;have eG:=bW.frozen 1;have bu:=bW.lt;have HX:=J (hx0.trans hx);have HB:=J bW;clear hx bW hx0;go_wp2_with fail;obtain⟨ai,ac⟩:=B7 HB.o (.bool false) (.slice A1 (Ac n).length c1);refine bodyPost_ret (v:= .agg #[.bool false,.slice A1 (Ac n).length c1]) (by simp[results,Tryz.results215,go_sem,ai,ac]) rfl ?_
 have dQ:=AP.laid HB.o HO.o (by simp) ge.o HX.o (qab _);rw[fo.o]at dQ;exact⟨_,rfl,dQ⟩
end Big
end Go.Proofs.YtkoaogkknnelaaaGreatDoor
