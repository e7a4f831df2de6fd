import Derived.Test.YtkoaogkknnelaaaGreatDoorM15
set_option linter.unusedVariables false
set_option linter.unusedSimpArgs false
set_option maxRecDepth 100000
namespace Go.Proofs.YtkoaogkknnelaaaGreatDoor
namespace Big
open Lib (hid)
open Go.RowKit
theorem Lj(l:List UInt8):CT l=(!(l == []) && decide (l.length<=24) && DN (Ae l 0) && l.all (fun c=>BD c.toNat)):=rfl
theorem Jn{l:List UInt8}{i:Nat}(h:i<l.length)(hf:BD (Ae l i)=false):l.all (fun c=>BD c.toNat)=false:=by
 rw[List.all_eq_false];exact⟨l[i],List.getElem_mem h,by rw[<-Bq l i h,hf];simp⟩
theorem JJ{l:List UInt8}(h:∀i,i<l.length->BD (Ae l i)=true):l.all (fun c=>BD c.toNat)=true:=by
 rw[List.all_eq_true];intro c hc;obtain⟨i,hi,rfl⟩:=List.getElem_of_mem hc;rw[<-Bq l i hi];exact h i hi
theorem Li(w:World)(l:List UInt8)(hl:l.length<=1073741824):Calls Tryz.prog 94 #[str l] w fun e w'=>e= .returned (.bool (CT l))/\w=w':=by
 have H:=hid (Lj l);rcases Nat.eq_zero_or_pos l.length with h0|h0
 ·obtain rfl:l=[]:=List.eq_nil_of_length_eq_zero h0;have HR:Hid (CT []=false):=hid rfl;have he:(([]:List UInt8) == [])=true:=rfl;clear h0 H;go_enter Tryz.func94,Tryz.ntmps94;go_wp2_with fail;go_ret;rw[HR.out];exact⟨rfl,rfl⟩
 ·have he:(l == [])=false:=by cases l<;>simp_all
  have h0i:(0:Int)<(l.length:Int):=by omega
  rcases Nat.lt_or_ge 24 l.length with h24|h24
  ·have HR:Hid (CT l=false):=hid (by rw[H.out,decide_eq_false (by omega)];simp);have hd:(24:Int)<(l.length:Int):=by omega
   clear H h0 h24;go_enter Tryz.func94,Tryz.ntmps94;go_wp2_with fail;go_ret;rw[HR.out];exact⟨rfl,rfl⟩
  ·have hd:¬(24:Int)<(l.length:Int):=by omega
   have ed:decide ((24:Int)<(l.length:Int))=false:=by simp;omega
   have eS:=CA l 0;have dl:=hid (fun W=>Gn W (Ae l 0) eS);cases hlet:DN (Ae l 0)
   ·have HR:Hid (CT l=false):=hid (by rw[H.out,hlet];simp);rw[hlet]at dl;clear H h0 h24 hlet;go_enter Tryz.func94,Tryz.ntmps94;go_wp2_with fail;refine(dl.out _).mono ?_
    rintro e w1 ⟨rfl,rfl⟩;go_wp2_with fail;go_ret;rw[HR.out];exact⟨rfl,rfl⟩
   ·have HR:Hid (CT l=l.all (fun c=>BD c.toNat)):=hid (by rw[H.out,hlet,he,decide_eq_true h24];simp);rw[hlet]at dl;clear H hlet;go_enter Tryz.func94,Tryz.ntmps94;go_wp2_with fail;refine(dl.out _).mono ?_
    rintro e w1 ⟨rfl,rfl⟩;go_wp2_with fail
    go_loop [19] (fun s=>∃i:Nat,i<=l.length/\s= .int .i64 (i:Int)/\Hid (∀j,j<i->BD (Ae l j)=true)) (fun s=>l.length-(intOf s).toNat)
    case atStart=>exact⟨0,Nat.zero_le _,rfl,hid (fun j hj=>by omega)⟩
    case round=>
     obtain⟨i,hi,rfl,HA⟩:=hrel;by_cases hlt:i<l.length
     ·have Vr:=CA l i;have HC:=hid (fun W=>NG W (Ae l i) Vr);cases hw:BD (Ae l i)
      ·have HF:Hid (CT l=false):=hid (by rw[HR.out];exact Jn hlt hw);rw[hw]at HC;clear hw;go_wp2_with fail;refine(HC.out _).mono ?_
       rintro e w1 ⟨rfl,rfl⟩;go_wp2_with fail;go_ret;rw[HF.out];exact⟨rfl,rfl⟩
      ·have HN:Hid (∀j,j<i+1->BD (Ae l j)=true):=hid (fun j hj=>by
        rcases Nat.lt_or_ge j i with h1|h1
        ·exact HA.out j h1
        ·obtain rfl:j=i:=by omega
         exact hw)
       rw[hw]at HC;clear hw;go_wp2_with fail;refine(HC.out _).mono ?_
       rintro e w1 ⟨rfl,rfl⟩;go_wp2_with fail
       go_round
       case rel=>exact⟨i+1,by omega,by go_num,HN⟩
       case measure=>simp[intOf];omega
     ·obtain rfl:i=l.length:=by omega
      have HF:Hid (CT l=true):=hid (by rw[HR.out];exact JJ HA.out);go_wp2_with fail;go_ret;rw[HF.out];exact⟨rfl,rfl⟩
def Bu:List (List UInt8):=[[112,105],[101],[115,113,114,116],[101,120,112],[108,110],[115,105,110],[99,111,115],[97,116,97,110]]
def Bm(l:List UInt8):Nat:=if l=[115,113,114,116] then 11 else if l=[101,120,112] then 12 else if l=[108,110] then 13 else if l=[115,105,110] then 14 else if l=[99,111,115] then 15 else if l=[97,116,97,110] then 16 else 0
def Bc(l:List UInt8):Bool:=l == [112,105] || l == [101] || Bm l != 0
theorem K1(w:World)(l:List UInt8):Calls Tryz.prog 152 #[str l] w fun e w'=>e= .returned (.int .i64 (Bm l:Int))/\w=w':=by
 have H:Hid (Bm l=if l=[115,113,114,116] then 11 else if l=[101,120,112] then 12 else if l=[108,110] then 13 else if l=[115,105,110] then 14 else if l=[99,111,115] then 15 else if l=[97,116,97,110] then 16 else 0):=hid rfl;by_cases h0:l=[115,113,114,116]
 ·have HR:Hid (Bm l=11):=hid (by rw[H.out,if_pos h0]);have b0:(l == [115,113,114,116])=true:=by rw[beq_iff_eq];exact h0
  clear H h0;go_enter Tryz.func152,Tryz.ntmps152;go_wp2_with fail;go_ret;rw[HR.out];exact⟨rfl,rfl⟩
 by_cases h1:l=[101,120,112]
 ·have HR:Hid (Bm l=12):=hid (by rw[H.out,if_neg h0,if_pos h1]);have b0:(l == [115,113,114,116])=false:=by rw[beq_eq_false_iff_ne];exact h0
  have b1:(l == [101,120,112])=true:=by rw[beq_iff_eq];exact h1
  clear H h0 h1;go_enter Tryz.func152,Tryz.ntmps152;go_wp2_with fail;go_ret;rw[HR.out];exact⟨rfl,rfl⟩
 by_cases h2:l=[108,110]
 ·have HR:Hid (Bm l=13):=hid (by rw[H.out,if_neg h0,if_neg h1,if_pos h2]);have b0:(l == [115,113,114,116])=false:=by rw[beq_eq_false_iff_ne];exact h0
  have b1:(l == [101,120,112])=false:=by rw[beq_eq_false_iff_ne];exact h1
  have b2:(l == [108,110])=true:=by rw[beq_iff_eq];exact h2
  clear H h0 h1 h2;go_enter Tryz.func152,Tryz.ntmps152;go_wp2_with fail;go_ret;rw[HR.out];exact⟨rfl,rfl⟩
 by_cases h3:l=[115,105,110]
 ·have HR:Hid (Bm l=14):=hid (by rw[H.out,if_neg h0,if_neg h1,if_neg h2,if_pos h3]);have b0:(l == [115,113,114,116])=false:=by rw[beq_eq_false_iff_ne];exact h0
  have b1:(l == [101,120,112])=false:=by rw[beq_eq_false_iff_ne];exact h1
  have b2:(l == [108,110])=false:=by rw[beq_eq_false_iff_ne];exact h2
  have b3:(l == [115,105,110])=true:=by rw[beq_iff_eq];exact h3
  clear H h0 h1 h2 h3;go_enter Tryz.func152,Tryz.ntmps152;go_wp2_with fail;go_ret;rw[HR.out];exact⟨rfl,rfl⟩
 by_cases h4:l=[99,111,115]
 ·have HR:Hid (Bm l=15):=hid (by rw[H.out,if_neg h0,if_neg h1,if_neg h2,if_neg h3,if_pos h4]);have b0:(l == [115,113,114,116])=false:=by rw[beq_eq_false_iff_ne];exact h0
  have b1:(l == [101,120,112])=false:=by rw[beq_eq_false_iff_ne];exact h1
  have b2:(l == [108,110])=false:=by rw[beq_eq_false_iff_ne];exact h2
  have b3:(l == [115,105,110])=false:=by rw[beq_eq_false_iff_ne];exact h3
  have b4:(l == [99,111,115])=true:=by rw[beq_iff_eq];exact h4
  clear H h0 h1 h2 h3 h4;go_enter Tryz.func152,Tryz.ntmps152;go_wp2_with fail;go_ret;rw[HR.out];exact⟨rfl,rfl⟩
 by_cases h5:l=[97,116,97,110]
 ·have HR:Hid (Bm l=16):=hid (by rw[H.out,if_neg h0,if_neg h1,if_neg h2,if_neg h3,if_neg h4,if_pos h5]);have b0:(l == [115,113,114,116])=false:=by rw[beq_eq_false_iff_ne];exact h0
  have b1:(l == [101,120,112])=false:=by rw[beq_eq_false_iff_ne];exact h1
  have b2:(l == [108,110])=false:=by rw[beq_eq_false_iff_ne];exact h2
  have b3:(l == [115,105,110])=false:=by rw[beq_eq_false_iff_ne];exact h3
  have b4:(l == [99,111,115])=false:=by rw[beq_eq_false_iff_ne];exact h4
  have b5:(l == [97,116,97,110])=true:=by rw[beq_iff_eq];exact h5
  clear H h0 h1 h2 h3 h4 h5;go_enter Tryz.func152,Tryz.ntmps152;go_wp2_with fail;go_ret;rw[HR.out];exact⟨rfl,rfl⟩
 have HR:Hid (Bm l=0):=hid (by rw[H.out,if_neg h0,if_neg h1,if_neg h2,if_neg h3,if_neg h4,if_neg h5]);have b0:(l == [115,113,114,116])=false:=by rw[beq_eq_false_iff_ne];exact h0
 have b1:(l == [101,120,112])=false:=by rw[beq_eq_false_iff_ne];exact h1
 have b2:(l == [108,110])=false:=by rw[beq_eq_false_iff_ne];exact h2
 have b3:(l == [115,105,110])=false:=by rw[beq_eq_false_iff_ne];exact h3
 have b4:(l == [99,111,115])=false:=by rw[beq_eq_false_iff_ne];exact h4
 have b5:(l == [97,116,97,110])=false:=by rw[beq_eq_false_iff_ne];exact h5
 clear H h0 h1 h2 h3 h4 h5;go_enter Tryz.func152,Tryz.ntmps152;go_wp2_with fail;go_ret;rw[HR.out];exact⟨rfl,rfl⟩
theorem F9(w:World)(l:List UInt8):Calls Tryz.prog 95 #[str l] w fun e w'=>e= .returned (.bool (Bc l))/\w=w':=by
 have H:Hid (Bc l=(l == [112,105] || l == [101] || Bm l != 0)):=hid rfl;have HF:=hid (fun W=>K1 W l);cases b0:(l == [112,105])
 ·cases b1:(l == [101])
  ·have hk:((Bm l:Int) != 0)=(Bm l != 0):=by rw[Bool.eq_iff_iff];simp
   cases b2:(Bm l != 0)
   all_goals
    rw[b2]at hk;rw[b0,b1,b2]at H;clear b2;go_enter Tryz.func95,Tryz.ntmps95;go_wp2_with fail;refine(HF.out _).mono ?_
    rintro e w1 ⟨rfl,rfl⟩;go_wp2_with fail;go_ret;rw[H.out];exact⟨rfl,rfl⟩
  ·rw[b0,b1]at H;go_enter Tryz.func95,Tryz.ntmps95;go_wp2_with fail;go_ret;rw[H.out];exact⟨rfl,rfl⟩
 ·rw[b0]at H;go_enter Tryz.func95,Tryz.ntmps95;go_wp2_with fail;go_ret;rw[H.out];exact⟨rfl,rfl⟩
theorem JL(w:World):Calls Tryz.prog 197 #[] w fun e w'=>∃v,e= .returned v/\GB w.heap.size w' v Bu/\Ext w w':=by
 go_enter Tryz.func197,Tryz.ntmps197;go_wp2_with fail;go_ret;exact⟨_,rfl,GB.block (ls:=Bu) (Blk.new w 9 _) (Nat.le_refl _) (by decide),(Ext.refl w).alloc _⟩
theorem Ci(l:List UInt8):Bc l=Bu.contains l:=by
 have h:Bc l=(l == [112,105] || l == [101] || l == [115,113,114,116] || l == [101,120,112] || l == [108,110] || l == [115,105,110] || l == [99,111,115] || l == [97,116,97,110]):=by
  unfold Bc;by_cases h0:l=[115,113,114,116]
  ·subst h0;rfl
  by_cases h1:l=[101,120,112]
  ·subst h1;rfl
  by_cases h2:l=[108,110]
  ·subst h2;rfl
  by_cases h3:l=[115,105,110]
  ·subst h3;rfl
  by_cases h4:l=[99,111,115]
  ·subst h4;rfl
  by_cases h5:l=[97,116,97,110]
  ·subst h5;rfl
  unfold Bm;rw[if_neg h0,if_neg h1,if_neg h2,if_neg h3,if_neg h4,if_neg h5];rw[beq_false_of_ne h0,beq_false_of_ne h1,beq_false_of_ne h2,beq_false_of_ne h3,beq_false_of_ne h4,beq_false_of_ne h5];simp only[Bool.or_false];simp
 rw[h,Bool.eq_iff_iff];unfold Bu;simp[or_assoc]
theorem RE(l:List UInt8)(j:Nat)(hj:j<Bu.length)(h1:1<j)(h:l=Bu[j]):Bm l=11+j-2:=by
 subst h;have:j=2\/j=3\/j=4\/j=5\/j=6\/j=7:=by
  have:Bu.length=8:=rfl;omega
 rcases this with rfl|rfl|rfl|rfl|rfl|rfl<;>rfl
theorem NK(l:List UInt8)(h:∀j (hj:j<Bu.length),1<j->l≠Bu[j]):Bm l=0:=by
 have h2:l≠[115,113,114,116]:=h 2 (by decide) (by decide);have h3:l≠[101,120,112]:=h 3 (by decide) (by decide);have h4:l≠[108,110]:=h 4 (by decide) (by decide);have h5:l≠[115,105,110]:=h 5 (by decide) (by decide);have h6:l≠[99,111,115]:=h 6 (by decide) (by decide);have h7:l≠[97,116,97,110]:=h 7 (by decide) (by decide);unfold Bm;rw[if_neg h2,if_neg h3,if_neg h4,if_neg h5,if_neg h6,if_neg h7]
theorem JA(w:World)(l:List UInt8):Calls Tryz.prog 156 #[str l] w fun e w'=>e= .returned (.bool (Bc l))/\Ext w w':=by
 have HW:=hid (fun W=>JL W);go_enter Tryz.func156,Tryz.ntmps156;go_wp2_with fail;refine(HW.out _).mono ?_
 rintro e w1 ⟨v1,rfl,ho,hx⟩;have HX:=hid hx;obtain⟨A,c,rfl,hc,hm,aa⟩:=ho.arr.open;obtain⟨b,o,rfl,hb,aa⟩:=aa (by decide);have HC:=hid aa;have qB:Bu.length=8:=rfl;have rG:=hid qB;rw[qB]at hc ⊢;clear qB ho hx aa;unfold maxLen at hm;go_wp2_with fail
 go_loop [7] (fun s=>∃i:Nat,i<=8/\s= .int .i64 (i:Int)/\Hid (∀j (hj:j<Bu.length),j<i->l≠Bu[j])) (fun s=>8-(intOf s).toNat)
 case atStart=>exact⟨0,Nat.zero_le _,rfl,hid (fun j hj h=>by omega)⟩
 case round=>
  obtain⟨i,hi,rfl,HN⟩:=hrel;by_cases hlt:i<8
  ·have il:i<Bu.length:=by rw[rG.out];exact hlt
   have hx:=HC.out i il;by_cases he:l=Bu[i]
   ·have HR:Hid (Bc l=true):=hid (by rw[Ci,List.contains_iff_mem,he];exact List.getElem_mem il);generalize Bu[i]=m at *;have gD:(l == m)=true:=by rw[beq_iff_eq];exact he
    clear he;go_wp2_with fail;go_ret;rw[HR.out];exact⟨rfl,HX.out⟩
   ·have ef:Hid (∀j (hj:j<Bu.length),j<i+1->l≠Bu[j]):=hid (fun j hj h=>by
     rcases Nat.lt_or_ge j i with h1|h1
     ·exact HN.out j hj h1
     ·obtain rfl:j=i:=by omega
      exact he)
    generalize Bu[i]=m at *;have gD:(l == m)=false:=by rw[beq_eq_false_iff_ne];exact he
    clear he;go_wp2_with fail
    go_round
    case rel=>exact⟨i+1,by omega,by go_num,ef⟩
    case measure=>simp[intOf];omega
  ·obtain rfl:i=8:=by omega
   have HR:Hid (Bc l=false):=hid (by
    rw[Ci,Bool.eq_false_iff];intro tM;rw[List.contains_iff_mem]at tM;obtain⟨j,hj,e⟩:=List.getElem_of_mem tM;exact HN.out j hj (by have:=rG.out;omega) e.symm)
   go_wp2_with fail;go_ret;rw[HR.out];exact⟨rfl,HX.out⟩
theorem FH(w:World)(l:List UInt8):Calls Tryz.prog 267 #[str l] w fun e w'=>e= .returned (.int .i64 (Bm l:Int))/\Ext w w':=by
 have HW:=hid (fun W=>JL W);go_enter Tryz.func267,Tryz.ntmps267;go_wp2_with fail;refine(HW.out _).mono ?_
 rintro e w1 ⟨v1,rfl,ho,hx⟩;have HX:=hid hx;obtain⟨A,c,rfl,hc,hm,aa⟩:=ho.arr.open;obtain⟨b,o,rfl,hb,aa⟩:=aa (by decide);have HC:=hid aa;have qB:Bu.length=8:=rfl;have rG:=hid qB;rw[qB]at hc ⊢;clear qB ho hx aa;unfold maxLen at hm;go_wp2_with fail
 go_loop [7] (fun s=>∃i:Nat,i<=8/\s= .int .i64 (i:Int)/\Hid (∀j (hj:j<Bu.length),1<j->j<i->l≠Bu[j])) (fun s=>8-(intOf s).toNat)
 case atStart=>exact⟨0,Nat.zero_le _,rfl,hid (fun j hj _ h=>by omega)⟩
 case round=>
  obtain⟨i,hi,rfl,HN⟩:=hrel;by_cases hlt:i<8
  ·have il:i<Bu.length:=by rw[rG.out];exact hlt
   have hx:=HC.out i il;have iT:=hid (RE l i il);have ef:Hid ((1<i->l≠Bu[i])->∀j (hj:j<Bu.length),1<j->j<i+1->l≠Bu[j]):=hid (fun he j hj h0 h=>by
    rcases Nat.lt_or_ge j i with h1|h1
    ·exact HN.out j hj h0 h1
    ·obtain rfl:j=i:=by omega
     exact he h0)
   generalize Bu[i]=m at *;by_cases h1:1<i
   ·have YA:(1:Int)<(i:Int):=by omega
    by_cases he:l=m
    ·have HR:=hid (iT.out h1 he);have gD:(l == m)=true:=by rw[beq_iff_eq];exact he
     clear he;go_wp2_with fail;go_ret;exact⟨congrArg (fun z=>Ending.returned (.int .i64 z)) (by rw[HR.out];omega),HX.out⟩
    ·have rA:=hid (ef.out (fun _=>he));have gD:(l == m)=false:=by rw[beq_eq_false_iff_ne];exact he
     clear he;go_wp2_with fail
     go_round
     case rel=>exact⟨i+1,by omega,by go_num,rA⟩
     case measure=>simp[intOf];omega
   ·have rA:=hid (ef.out (fun h=>absurd h h1));have YA:¬(1:Int)<(i:Int):=by omega
    go_wp2_with fail
    go_round
    case rel=>exact⟨i+1,by omega,by go_num,rA⟩
    case measure=>simp[intOf];omega
  ·obtain rfl:i=8:=by omega
   have HR:Hid (Bm l=0):=hid (NK l (fun j hj h0=>HN.out j hj h0 (by have:=rG.out;omega)));go_wp2_with fail;go_ret;rw[HR.out];exact⟨rfl,HX.out⟩
def Bf(l:List UInt8):Nat:=if DN (Ae l 0) then An BD l else 0
def Dw(l:List UInt8)(i:Nat):Bool:=DN (Ae l i) || (decide (0<i) && (C5 (Ae l i) || Ae l i == 95))
theorem FP{p:Nat->Bool}{l:List UInt8}(h:0<l.length)(hp:p (Ae l 0)=true):0<An p l:=by
 cases l with
 |nil=>simp at h
 |cons c t=>
  have hc:p c.toNat=true:=hp;rw[An,if_pos hc];omega
theorem JV{p:Nat->Bool}{l:List UInt8}{i:Nat}(h:i<An p l):p (Ae l i)=true:=by
 obtain⟨h1,h2⟩:=GL p l i h;rw[Bq l i h1];exact h2
theorem IG{p:Nat->Bool}{l:List UInt8}(h:An p l<l.length):p (Ae l (An p l))=false:=by
 rw[Bq l _ h];exact MZ p l h
theorem Nc(l:List UInt8):Bf l<=l.length:=by
 unfold Bf;split
 ·exact C9 _ _
 ·exact Nat.zero_le _
theorem Nf{l:List UInt8}{i:Nat}(hi:i<=Bf l)(hl:i<l.length):(Dw l i=true/\i<Bf l)\/(Dw l i=false/\i=Bf l):=by
 have hw:BD (Ae l i)=(DN (Ae l i) || C5 (Ae l i) || Ae l i == 95):=rfl;unfold Bf at hi ⊢;cases h0:DN (Ae l 0)
 ·rw[h0]at hi;simp only[Bool.false_eq_true,if_false]at hi ⊢;obtain rfl:i=0:=by omega
  exact .inr ⟨by unfold Dw;rw[h0];rfl,rfl⟩
 ·rw[h0]at hi;simp only[if_true]at hi ⊢;rcases Nat.eq_zero_or_pos i with hz|hz
  ·subst hz;exact .inl ⟨by unfold Dw;rw[h0];rfl,FP hl (by unfold BD;rw[h0];rfl)⟩
  ·have hg:Dw l i=BD (Ae l i):=by unfold Dw;rw[hw,decide_eq_true hz,Bool.true_and,Bool.or_assoc]
   rcases Nat.lt_or_ge i (An BD l) with h1|h1
   ·exact .inl ⟨by rw[hg];exact JV h1,h1⟩
   ·have:i=An BD l:=by omega
    subst this;exact .inr ⟨by rw[hg];exact IG hl,rfl⟩
theorem TL{l:List UInt8}{i:Nat}(hi:i<=An Ca l)(hl:i<l.length):(Ca (Ae l i)=true/\i<An Ca l)\/(Ca (Ae l i)=false/\i=An Ca l):=by
 rcases Nat.lt_or_ge i (An Ca l) with h1|h1
 ·exact .inl ⟨JV h1,h1⟩
 ·have:i=An Ca l:=by omega
  subst this;exact .inr ⟨IG hl,rfl⟩
theorem Tj(p:Nat->Bool)(l:List UInt8):l.all (fun c=>p c.toNat)=decide (An p l=l.length):=by
 induction l with
 |nil=>rfl
 |cons c t ih=>
  rw[List.all_cons,ih,An];cases hc:p c.toNat
  ·simp
  ·have:(An p t+1=(c::t).length)↔(An p t=t.length):=by simp
   simp
theorem JM(l:List UInt8):CT l=(!(l == []) && (decide (l.length<=24) && decide (Bf l=l.length))):=by
 rcases Nat.eq_zero_or_pos l.length with h0|h0
 ·obtain rfl:l=[]:=List.eq_nil_of_length_eq_zero h0;rfl
 ·rw[Lj,Tj];unfold Bf;cases h1:DN (Ae l 0)
  ·have:¬(0=l.length):=by omega
   simp[this]
  ·simp[Bool.and_assoc]
theorem JU(w:World)(l:List UInt8)(hl:l.length<=1073741824):Calls Tryz.prog 123 #[str l] w fun e w'=>e= .returned (.int .i64 (Bf l:Int))/\w=w':=by
 have cx:=Nc l;go_enter Tryz.func123,Tryz.ntmps123;go_wp2_with fail
 go_loop [3] (fun s=>∃i:Nat,i<=Bf l/\s= .int .i64 (i:Int)) (fun s=>l.length-(intOf s).toNat)
 case atStart=>exact⟨0,Nat.zero_le _,rfl⟩
 case round=>
  obtain⟨i,hi,rfl⟩:=hrel;by_cases hlt:i<l.length
  ·have eN:=hid (Nf hi hlt);have eS:=CA l i;have dl:=hid (fun W=>Hl W (Ae l i) eS);have iU:=hid (fun W=>FQ W (Ae l i) eS);have uv:(Ae l i == 95)=((Ae l i:Int) == 95):=by rw[Bool.eq_iff_iff];simp;omega
   have Wn:=hid uv;clear uv;cases hlet:DN (Ae l i)
   ·rcases Nat.eq_zero_or_pos i with hz|hz
    ·have HG:Hid (Dw l i=false):=hid (by unfold Dw;rw[hlet,hz];rfl);have nz:¬(0:Int)<(i:Int):=by omega
     have rY:decide ((0:Int)<(i:Int))=false:=by simp;omega
     rw[hlet]at dl;clear hlet hz;go_wp2_with fail;refine(dl.out _).mono ?_
     rintro e w1 ⟨rfl,rfl⟩;have HN:Hid (i=Bf l):=hid (by
      rcases eN.out with ⟨h,_⟩|⟨_,h⟩
      ·rw[HG.out]at h;cases h
      ·exact h)
     go_wp2_with fail;go_ret;exact⟨by rw[<-HN.out];rfl,rfl⟩
    ·have nz:(0:Int)<(i:Int):=by omega
     have rY:decide ((0:Int)<(i:Int))=true:=by rw[decide_eq_true_iff];omega
     cases hdig:C5 (Ae l i)
     ·cases h95:((Ae l i:Int) == 95)
      ·have HG:Hid (Dw l i=false):=hid (by unfold Dw;rw[hlet,hdig,Wn.out,h95];simp);rw[hlet]at dl;rw[hdig]at iU;clear hlet hz hdig;go_wp2_with fail;refine(dl.out _).mono ?_
       rintro e w1 ⟨rfl,rfl⟩;go_wp2_with fail;refine(iU.out _).mono ?_
       rintro e w1 ⟨rfl,rfl⟩;have HN:Hid (i=Bf l):=hid (by
        rcases eN.out with ⟨h,_⟩|⟨_,h⟩
        ·rw[HG.out]at h;cases h
        ·exact h)
       go_wp2_with fail;go_ret;exact⟨by rw[<-HN.out];rfl,rfl⟩
      ·have HG:Hid (Dw l i=true):=hid (by unfold Dw;rw[hlet,hdig,Wn.out,h95];simp;omega);rw[hlet]at dl;rw[hdig]at iU;clear hlet hz hdig;go_wp2_with fail;refine(dl.out _).mono ?_
       rintro e w1 ⟨rfl,rfl⟩;go_wp2_with fail;refine(iU.out _).mono ?_
       rintro e w1 ⟨rfl,rfl⟩;have HN:Hid (i+1<=Bf l):=hid (by
        rcases eN.out with ⟨_,h⟩|⟨h,_⟩
        ·exact h
        ·rw[HG.out]at h;cases h)
       go_wp2_with fail
       go_round
       case rel=>exact⟨i+1,HN.out,by go_num⟩
       case measure=>simp[intOf];omega
     ·have HG:Hid (Dw l i=true):=hid (by unfold Dw;rw[hlet,hdig];simp;omega);rw[hlet]at dl;rw[hdig]at iU;clear hlet hz hdig;go_wp2_with fail;refine(dl.out _).mono ?_
      rintro e w1 ⟨rfl,rfl⟩;go_wp2_with fail;refine(iU.out _).mono ?_
      rintro e w1 ⟨rfl,rfl⟩;have HN:Hid (i+1<=Bf l):=hid (by
       rcases eN.out with ⟨_,h⟩|⟨h,_⟩
       ·exact h
       ·rw[HG.out]at h;cases h)
      go_wp2_with fail
      go_round
      case rel=>exact⟨i+1,HN.out,by go_num⟩
      case measure=>simp[intOf];omega
   ·have HG:Hid (Dw l i=true):=hid (by unfold Dw;rw[hlet];rfl);rw[hlet]at dl;clear hlet;go_wp2_with fail;refine(dl.out _).mono ?_
    rintro e w1 ⟨rfl,rfl⟩;have HN:Hid (i+1<=Bf l):=hid (by
     rcases eN.out with ⟨_,h⟩|⟨h,_⟩
     ·exact h
     ·rw[HG.out]at h;cases h)
    go_wp2_with fail
    go_round
    case rel=>exact⟨i+1,HN.out,by go_num⟩
    case measure=>simp[intOf];omega
  ·have HN:Hid (i=Bf l):=hid (by omega);go_wp2_with fail;go_ret;exact⟨by rw[<-HN.out];rfl,rfl⟩
theorem Pq(w:World)(l:List UInt8)(hl:l.length<=1073741824):Calls Tryz.prog 155 #[str l] w fun e w'=>e= .returned (.bool (CT l))/\w=w':=by
 have H:=hid (JM l);have HR:=hid (fun W=>JU W l hl);cases h0:(l == [])
 ·by_cases h24:l.length<=24
  ·have hd:decide ((l.length:Int)<=24)=true:=by rw[decide_eq_true_iff];omega
   have ed:(l.length:Int)<=24:=by omega
   have he:((Bf l:Int) == (l.length:Int))=decide (Bf l=l.length):=by rw[Bool.eq_iff_iff];simp;omega
   rw[h0,decide_eq_true h24]at H;cases h1:decide (Bf l=l.length)
   all_goals
    rw[h1]at he;rw[h1]at H;clear h1;generalize Bf l=r at *;go_enter Tryz.func155,Tryz.ntmps155;go_wp2_with fail;refine(HR.out _).mono ?_
    rintro e w1 ⟨rfl,rfl⟩;go_wp2_with fail;go_ret;rw[H.out];exact⟨rfl,rfl⟩
  ·have hd:decide ((l.length:Int)<=24)=false:=by simp;omega
   have ed:¬(l.length:Int)<=24:=by omega
   rw[h0,decide_eq_false h24]at H;clear h24;go_enter Tryz.func155,Tryz.ntmps155;go_wp2_with fail;go_ret;rw[H.out];exact⟨rfl,rfl⟩
 ·rw[h0]at H;go_enter Tryz.func155,Tryz.ntmps155;go_wp2_with fail;go_ret;rw[H.out];exact⟨rfl,rfl⟩
theorem LD(w:World)(l:List UInt8)(hl:l.length<=1073741824):Calls Tryz.prog 125 #[str l] w fun e w'=>e= .returned (.int .i64 (An Ca l:Int))/\w=w':=by
 have cx:=C9 Ca l;go_enter Tryz.func125,Tryz.ntmps125;go_wp2_with fail
 go_loop [3] (fun s=>∃i:Nat,i<=An Ca l/\s= .int .i64 (i:Int)) (fun s=>l.length-(intOf s).toNat)
 case atStart=>exact⟨0,Nat.zero_le _,rfl⟩
 case round=>
  obtain⟨i,hi,rfl⟩:=hrel;by_cases hlt:i<l.length
  ·have eN:=hid (TL hi hlt);have eS:=CA l i;have iU:=hid (fun W=>FQ W (Ae l i) eS);have ux:(Ae l i == 46)=((Ae l i:Int) == 46):=by rw[Bool.eq_iff_iff];simp;omega
   have Wo:=hid ux;clear ux;cases hdig:C5 (Ae l i)
   ·rw[hdig]at iU;cases h46:((Ae l i:Int) == 46)
    ·have HG:Hid (Ca (Ae l i)=false):=hid (by unfold Ca;rw[hdig,Wo.out,h46];rfl);clear hdig;go_wp2_with fail;refine(iU.out _).mono ?_
     rintro e w1 ⟨rfl,rfl⟩;have HN:Hid (i=An Ca l):=hid (by
      rcases eN.out with ⟨h,_⟩|⟨_,h⟩
      ·rw[HG.out]at h;cases h
      ·exact h)
     go_wp2_with fail;go_ret;exact⟨by rw[<-HN.out];rfl,rfl⟩
    ·have HG:Hid (Ca (Ae l i)=true):=hid (by unfold Ca;rw[hdig,Wo.out,h46];rfl);clear hdig;go_wp2_with fail;refine(iU.out _).mono ?_
     rintro e w1 ⟨rfl,rfl⟩;have HN:Hid (i+1<=An Ca l):=hid (by
      rcases eN.out with ⟨_,h⟩|⟨h,_⟩
      ·exact h
      ·rw[HG.out]at h;cases h)
     go_wp2_with fail
     go_round
     case rel=>exact⟨i+1,HN.out,by go_num⟩
     case measure=>simp[intOf];omega
   ·have HG:Hid (Ca (Ae l i)=true):=hid (by unfold Ca;rw[hdig];rfl);rw[hdig]at iU;clear hdig;go_wp2_with fail;refine(iU.out _).mono ?_
    rintro e w1 ⟨rfl,rfl⟩;have HN:Hid (i+1<=An Ca l):=hid (by
     rcases eN.out with ⟨_,h⟩|⟨h,_⟩
     ·exact h
     ·rw[HG.out]at h;cases h)
    go_wp2_with fail
    go_round
    case rel=>exact⟨i+1,HN.out,by go_num⟩
    case measure=>simp[intOf];omega
  ·have HN:Hid (i=An Ca l):=hid (by omega);go_wp2_with fail;go_ret;exact⟨by rw[<-HN.out];rfl,rfl⟩
theorem Pa(w:World)(n:Nat)(YJ:n<256):Calls Tryz.prog 127 #[.int .u8 (n:Int)] w fun e w'=>e= .returned (.bool (FF n))/\w=w':=by
 have hc:∀k:Nat,(n == k)=((n:Int) == (k:Int)):=fun k=>by rw[Bool.eq_iff_iff];simp;omega
 have H:Hid (FF n=((n:Int) == 43 || (n:Int) == 45 || (n:Int) == 42 || (n:Int) == 47 || (n:Int) == 94 || (n:Int) == 40 || (n:Int) == 41)):=hid (by
  unfold FF;rw[hc 43,hc 45,hc 42,hc 47,hc 94,hc 40,hc 41];rfl)
 clear hc;cases b0:((n:Int) == 43)
 ·skip
  cases b1:((n:Int) == 45)
  ·skip
   cases b2:((n:Int) == 42)
   ·skip
    cases b3:((n:Int) == 47)
    ·skip
     cases b4:((n:Int) == 94)
     ·skip
      cases b5:((n:Int) == 40)
      ·skip
       cases b6:((n:Int) == 41)
       ·skip
        rw[b0,b1,b2,b3,b4,b5,b6]at H;go_enter Tryz.func127,Tryz.ntmps127;go_wp2_with fail;go_ret;rw[H.out];exact⟨rfl,rfl⟩
       ·skip
        rw[b0,b1,b2,b3,b4,b5,b6]at H;go_enter Tryz.func127,Tryz.ntmps127;go_wp2_with fail;go_ret;rw[H.out];exact⟨rfl,rfl⟩
      ·skip
       rw[b0,b1,b2,b3,b4,b5]at H;go_enter Tryz.func127,Tryz.ntmps127;go_wp2_with fail;go_ret;rw[H.out];exact⟨rfl,rfl⟩
     ·skip
      rw[b0,b1,b2,b3,b4]at H;go_enter Tryz.func127,Tryz.ntmps127;go_wp2_with fail;go_ret;rw[H.out];exact⟨rfl,rfl⟩
    ·skip
     rw[b0,b1,b2,b3]at H;go_enter Tryz.func127,Tryz.ntmps127;go_wp2_with fail;go_ret;rw[H.out];exact⟨rfl,rfl⟩
   ·skip
    rw[b0,b1,b2]at H;go_enter Tryz.func127,Tryz.ntmps127;go_wp2_with fail;go_ret;rw[H.out];exact⟨rfl,rfl⟩
  ·skip
   rw[b0,b1]at H;go_enter Tryz.func127,Tryz.ntmps127;go_wp2_with fail;go_ret;rw[H.out];exact⟨rfl,rfl⟩
 ·skip
  rw[b0]at H;go_enter Tryz.func127,Tryz.ntmps127;go_wp2_with fail;go_ret;rw[H.out];exact⟨rfl,rfl⟩
theorem B4(w:World)(neg:Bool)(v:Value)(xs:List Nat)(h:Arr w v xs)(hn:xs.length<=1073741824):
  Calls Tryz.prog 212 #[.bool neg,v] w fun e w'=>∃v',e= .returned v'/\AL w.heap.size w' v' (sgn neg (val xs))/\Ext w w':=by
 have HT:=hid (fun W hx=>Bh W v xs (h.ext hx) hn);have fV:=hid (Lx (val xs));have ka:=hid (JS (val xs));clear h;cases neg
 ·go_enter Tryz.func212,Tryz.ntmps212;go_wp2_with fail;refine(HT.out _ ((Ext.refl w).alloc _)).mono ?_
  rintro e w' ⟨v',rfl,ho,hx⟩;have HO:=hid ho;obtain⟨A,c,hv,_⟩:=ho.2;rw[List.length_map]at hv;subst hv;clear ho;have bJ:=(Blk.new w 24 #[.bool false,.slice none 0 0]).ext hx;have hc0:w'.cell? ⟨w.heap.size,0,none⟩=some (.bool false):=bJ.cell 0;have hc1:w'.cell? ⟨w.heap.size,1,none⟩=some (.slice none 0 0):=bJ.cell 1;have hf0:=bJ.frozen 0;have dY:=bJ.frozen 1;have hz:=bJ.lt;have HX:=hid hx;have HB:=hid bJ;clear hx bJ;go_wp2_with fail;obtain⟨ak,ae⟩:=BN HB.out (.bool false) (.slice A (Ac (val xs)).length c);refine bodyPost_ret (v:= .agg #[.bool false,.slice A (Ac (val xs)).length c]) (by simp[results,Tryz.results212,go_sem,ak,ae]) rfl ?_
  exact⟨_,rfl,AL.laid HB.out HO.out (by simp) ka.out (((Ext.refl w).alloc _).trans HX.out) (Nat.le_refl _)⟩
 ·go_enter Tryz.func212,Tryz.ntmps212;go_wp2_with fail;refine(HT.out _ ((Ext.refl w).alloc _)).mono ?_
  rintro e w' ⟨v',rfl,ho,hx⟩;have HO:=hid ho;obtain⟨A,c,hv,_⟩:=ho.2;rw[List.length_map]at hv;subst hv;clear ho;have bJ:=(Blk.new w 24 #[.bool false,.slice none 0 0]).ext hx;have hc0:w'.cell? ⟨w.heap.size,0,none⟩=some (.bool false):=bJ.cell 0;have hc1:w'.cell? ⟨w.heap.size,1,none⟩=some (.slice none 0 0):=bJ.cell 1;have hf0:=bJ.frozen 0;have dY:=bJ.frozen 1;have hz:=bJ.lt;have HX:=hid hx;have HB:=hid bJ;clear hx bJ;go_wp2_with fail;obtain⟨ak,ae⟩:=BN HB.out (.bool (decide (0<(Ac (val xs)).length))) (.slice A (Ac (val xs)).length c);refine bodyPost_ret (v:= .agg #[.bool (decide (0<(Ac (val xs)).length)),.slice A (Ac (val xs)).length c]) (by simp[results,Tryz.results212,go_sem,ak,ae]) rfl ?_
  exact⟨_,rfl,AL.laid HB.out HO.out (by simp) fV.out (((Ext.refl w).alloc _).trans HX.out) (Nat.le_refl _)⟩
theorem SS(w:World)(z:Int)(hz:z<0)(iE: -9223372036854775808<=z):
  Calls Tryz.prog 215 #[.int .i64 z] w fun e w'=>∃v',e= .returned v'/\AL w.heap.size w' v' z/\Ext w w':=by
 obtain⟨n,hn⟩:∃n:Nat,z= -((n:Int)+1):=⟨(-(z+1)).toNat,by omega⟩;subst hn;have tH:n+1<18446744073709551616:=by omega
 have HT:=hid (fun W=>FV W (n+1) tH);have fV:=hid (show true=decide (sgn true (n+1)<0) by rw[Il];simp);have eT:=hid (show sgn true (n+1)= -((n:Int)+1) by unfold sgn;simp);have xt:(n:Int)<=9223372036854775807:=by omega
 have e1: -((n:Int)+1)+1= -(n:Int):=by omega
 clear tH;go_enter Tryz.func215,Tryz.ntmps215;go_wp2_with fail;have hx0:=(Ext.refl w).alloc (.cells #[.bool false,.slice none 0 0] 24);refine(HT.out _).mono ?_
 rintro e w1 ⟨v1,rfl,ho,hx⟩;have HO:=hid ho;obtain⟨A1,c1,fl,_⟩:=ho.2;rw[List.length_map]at fl;subst fl;clear ho;have bJ:=(Blk.new w 24 #[.bool false,.slice none 0 0]).ext hx;have hc0:w1.cell? ⟨w.heap.size,0,none⟩=some (.bool false):=bJ.cell 0;have hc1:w1.cell? ⟨w.heap.size,1,none⟩=some (.slice none 0 0):=bJ.cell 1;have hf0:=bJ.frozen 0;have dY:=bJ.frozen 1;have bx:=bJ.lt;have HX:=hid (hx0.trans hx);have HB:=hid bJ;clear hx bJ hx0;go_wp2_with fail;obtain⟨ak,ae⟩:=BN HB.out (.bool true) (.slice A1 (Ac (n+1)).length c1);refine bodyPost_ret (v:= .agg #[.bool true,.slice A1 (Ac (n+1)).length c1]) (by simp[results,Tryz.results215,go_sem,ak,ae]) rfl ?_
 have dj:=AL.laid HB.out HO.out (by simp) fV.out HX.out (Nat.le_refl _);rw[eT.out]at dj;exact⟨_,rfl,dj⟩
theorem SR(w:World)(n:Nat)(hn:n<9223372036854775808):
  Calls Tryz.prog 215 #[.int .i64 (n:Int)] w fun e w'=>∃v',e= .returned v'/\AL w.heap.size w' v' (n:Int)/\Ext w w':=by
 have HT:=hid (fun W=>FV W n (by omega));have fV:=hid (show false=decide (sgn false n<0) by rw[Il];simp);have eT:=hid (show sgn false n=(n:Int) by unfold sgn;simp);have xt:(n:Int)<=9223372036854775807:=by omega
 clear hn;go_enter Tryz.func215,Tryz.ntmps215;go_wp2_with fail;have hx0:=(Ext.refl w).alloc (.cells #[.bool false,.slice none 0 0] 24);refine(HT.out _).mono ?_
 rintro e w1 ⟨v1,rfl,ho,hx⟩;have HO:=hid ho;obtain⟨A1,c1,fl,_⟩:=ho.2;rw[List.length_map]at fl;subst fl;clear ho;have bJ:=(Blk.new w 24 #[.bool false,.slice none 0 0]).ext hx;have hc0:w1.cell? ⟨w.heap.size,0,none⟩=some (.bool false):=bJ.cell 0;have hc1:w1.cell? ⟨w.heap.size,1,none⟩=some (.slice none 0 0):=bJ.cell 1;have hf0:=bJ.frozen 0;have dY:=bJ.frozen 1;have bx:=bJ.lt;have HX:=hid (hx0.trans hx);have HB:=hid bJ;clear hx bJ hx0;go_wp2_with fail;obtain⟨ak,ae⟩:=BN HB.out (.bool false) (.slice A1 (Ac n).length c1);refine bodyPost_ret (v:= .agg #[.bool false,.slice A1 (Ac n).length c1]) (by simp[results,Tryz.results215,go_sem,ak,ae]) rfl ?_
 have dj:=AL.laid HB.out HO.out (by simp) fV.out HX.out (Nat.le_refl _);rw[eT.out]at dj;exact⟨_,rfl,dj⟩
@[irreducible] def was (w:World) (g o:Nat):Value:=(w.cell? ⟨g,o,none⟩).getD undef
theorem Ag{w:World}{g o:Nat}{u:Value}(h:w.cell? ⟨g,o,none⟩=some u):w.cell? ⟨g,o,none⟩=some (was w g o):=by
 unfold was;rw[h];rfl
theorem Ext.keepf{w w':World}{b o:Nat}{u:Value}(hx:Ext w w')(h:w.cell? ⟨b,o,none⟩=some u)(hf:w.frozen? ⟨b,o,none⟩=false):w'.frozen? ⟨b,o,none⟩=false:=(hx.frozen (World.block_lt_of_cell? w _ h)).trans hf
theorem Al{w:World}{g i b o:Nat}{u v:Value}(h:w.cell? ⟨b,o,none⟩=some v)(hne:b≠g):(w.setCell ⟨g,i,none⟩ u).cell? ⟨b,o,none⟩=some v:=
 (World.cell?_setCell_other w _ _ u (fun e=>hne (by injection e with e1 _ _;exact e1.symm))).trans h
theorem AD{w:World}{g i b o:Nat}{u v:Value}(h:w.cell? ⟨b,o,none⟩=some v):∃v',(w.setCell ⟨g,i,none⟩ u).cell? ⟨b,o,none⟩=some v':=by
 obtain⟨v',hv⟩:=cell?_setCell_some (w:=w) (p:=⟨g,i,none⟩) (x:=u) (q:=⟨b,o,none⟩) (v:=v) h;exact⟨v',hv⟩
theorem AN{w:World}{g i b o:Nat}{u:Value}(hf:w.frozen? ⟨b,o,none⟩=false):(w.setCell ⟨g,i,none⟩ u).frozen? ⟨b,o,none⟩=false:=by
 rw[World.frozen?_setCell];exact hf
theorem En{w w1 w2:World}{g b0 o0 b1 o1 b2 o2 b3 o3:Nat}{u0 u1 u2 u3:Value}(h:Ext w w1/\w1.cell? ⟨b0,o0,none⟩=some u0/\w1.cell? ⟨b1,o1,none⟩=some u1/\w1.cell? ⟨b2,o2,none⟩=some u2/\w1.cell? ⟨b3,o3,none⟩=some u3/\w1.cell? ⟨g,0,none⟩=some (was w1 g 0)/\w1.cell? ⟨g,1,none⟩=some (was w1 g 1)/\w1.frozen? ⟨g,0,none⟩=false/\w1.frozen? ⟨g,1,none⟩=false)(hx:Ext w1 w2):Ext w w2/\w2.cell? ⟨b0,o0,none⟩=some u0/\w2.cell? ⟨b1,o1,none⟩=some u1/\w2.cell? ⟨b2,o2,none⟩=some u2/\w2.cell? ⟨b3,o3,none⟩=some u3/\w2.cell? ⟨g,0,none⟩=some (was w2 g 0)/\w2.cell? ⟨g,1,none⟩=some (was w2 g 1)/\w2.frozen? ⟨g,0,none⟩=false/\w2.frozen? ⟨g,1,none⟩=false:=
 ⟨h.1.trans hx,hx.keep h.2.1,hx.keep h.2.2.1,hx.keep h.2.2.2.1,hx.keep h.2.2.2.2.1,Ag (hx.keep h.2.2.2.2.2.1),Ag (hx.keep h.2.2.2.2.2.2.1),hx.keepf h.2.2.2.2.2.1 h.2.2.2.2.2.2.2.1,hx.keepf h.2.2.2.2.2.2.1 h.2.2.2.2.2.2.2.2⟩
theorem Cz{w w1:World}{g b0 o0 b1 o1 b2 o2 b3 o3:Nat}{u0 u1 u2 u3:Value}{x0 x1:Value}(h:Ext w w1/\w1.cell? ⟨b0,o0,none⟩=some u0/\w1.cell? ⟨b1,o1,none⟩=some u1/\w1.cell? ⟨b2,o2,none⟩=some u2/\w1.cell? ⟨b3,o3,none⟩=some u3/\w1.cell? ⟨g,0,none⟩=some (was w1 g 0)/\w1.cell? ⟨g,1,none⟩=some (was w1 g 1)/\w1.frozen? ⟨g,0,none⟩=false/\w1.frozen? ⟨g,1,none⟩=false)(hg:w.heap.size<=g)(n0:b0≠g)(n1:b1≠g)(n2:b2≠g)(n3:b3≠g):Ext w ((w1.setCell ⟨g,0,none⟩ x0).setCell ⟨g,1,none⟩ x1)/\((w1.setCell ⟨g,0,none⟩ x0).setCell ⟨g,1,none⟩ x1).cell? ⟨b0,o0,none⟩=some u0/\((w1.setCell ⟨g,0,none⟩ x0).setCell ⟨g,1,none⟩ x1).cell? ⟨b1,o1,none⟩=some u1/\((w1.setCell ⟨g,0,none⟩ x0).setCell ⟨g,1,none⟩ x1).cell? ⟨b2,o2,none⟩=some u2/\((w1.setCell ⟨g,0,none⟩ x0).setCell ⟨g,1,none⟩ x1).cell? ⟨b3,o3,none⟩=some u3/\((w1.setCell ⟨g,0,none⟩ x0).setCell ⟨g,1,none⟩ x1).cell? ⟨g,0,none⟩=some (was ((w1.setCell ⟨g,0,none⟩ x0).setCell ⟨g,1,none⟩ x1) g 0)/\((w1.setCell ⟨g,0,none⟩ x0).setCell ⟨g,1,none⟩ x1).cell? ⟨g,1,none⟩=some (was ((w1.setCell ⟨g,0,none⟩ x0).setCell ⟨g,1,none⟩ x1) g 1)/\((w1.setCell ⟨g,0,none⟩ x0).setCell ⟨g,1,none⟩ x1).frozen? ⟨g,0,none⟩=false/\((w1.setCell ⟨g,0,none⟩ x0).setCell ⟨g,1,none⟩ x1).frozen? ⟨g,1,none⟩=false:=by
 obtain⟨_,k0⟩:=AD (g:=g) (i:=0) (u:=x0) h.2.2.2.2.2.1;obtain⟨_,k0⟩:=AD (g:=g) (i:=1) (u:=x1) k0;obtain⟨_,k1⟩:=AD (g:=g) (i:=0) (u:=x0) h.2.2.2.2.2.2.1;obtain⟨_,k1⟩:=AD (g:=g) (i:=1) (u:=x1) k1;exact⟨((h.1.setCell hg _).setCell hg _),(Al (Al h.2.1 n0) n0),(Al (Al h.2.2.1 n1) n1),(Al (Al h.2.2.2.1 n2) n2),(Al (Al h.2.2.2.2.1 n3) n3),Ag k0,Ag k1,(AN (AN h.2.2.2.2.2.2.2.1)),(AN (AN h.2.2.2.2.2.2.2.2))⟩
theorem Gm{w w1 w2:World}{g b0 o0 b1 o1 b2 o2:Nat}{u0 u1 u2:Value}(h:Ext w w1/\w1.cell? ⟨b0,o0,none⟩=some u0/\w1.cell? ⟨b1,o1,none⟩=some u1/\w1.cell? ⟨b2,o2,none⟩=some u2/\w1.cell? ⟨g,0,none⟩=some (was w1 g 0)/\w1.cell? ⟨g,1,none⟩=some (was w1 g 1)/\w1.cell? ⟨g,2,none⟩=some (was w1 g 2)/\w1.frozen? ⟨g,0,none⟩=false/\w1.frozen? ⟨g,1,none⟩=false/\w1.frozen? ⟨g,2,none⟩=false)(hx:Ext w1 w2):Ext w w2/\w2.cell? ⟨b0,o0,none⟩=some u0/\w2.cell? ⟨b1,o1,none⟩=some u1/\w2.cell? ⟨b2,o2,none⟩=some u2/\w2.cell? ⟨g,0,none⟩=some (was w2 g 0)/\w2.cell? ⟨g,1,none⟩=some (was w2 g 1)/\w2.cell? ⟨g,2,none⟩=some (was w2 g 2)/\w2.frozen? ⟨g,0,none⟩=false/\w2.frozen? ⟨g,1,none⟩=false/\w2.frozen? ⟨g,2,none⟩=false:=
 ⟨h.1.trans hx,hx.keep h.2.1,hx.keep h.2.2.1,hx.keep h.2.2.2.1,Ag (hx.keep h.2.2.2.2.1),Ag (hx.keep h.2.2.2.2.2.1),Ag (hx.keep h.2.2.2.2.2.2.1),hx.keepf h.2.2.2.2.1 h.2.2.2.2.2.2.2.1,hx.keepf h.2.2.2.2.2.1 h.2.2.2.2.2.2.2.2.1,hx.keepf h.2.2.2.2.2.2.1 h.2.2.2.2.2.2.2.2.2⟩
theorem Dz{w w1:World}{g b0 o0 b1 o1 b2 o2:Nat}{u0 u1 u2:Value}{x0 x1 x2:Value}(h:Ext w w1/\w1.cell? ⟨b0,o0,none⟩=some u0/\w1.cell? ⟨b1,o1,none⟩=some u1/\w1.cell? ⟨b2,o2,none⟩=some u2/\w1.cell? ⟨g,0,none⟩=some (was w1 g 0)/\w1.cell? ⟨g,1,none⟩=some (was w1 g 1)/\w1.cell? ⟨g,2,none⟩=some (was w1 g 2)/\w1.frozen? ⟨g,0,none⟩=false/\w1.frozen? ⟨g,1,none⟩=false/\w1.frozen? ⟨g,2,none⟩=false)(hg:w.heap.size<=g)(n0:b0≠g)(n1:b1≠g)(n2:b2≠g):Ext w (((w1.setCell ⟨g,0,none⟩ x0).setCell ⟨g,1,none⟩ x1).setCell ⟨g,2,none⟩ x2)/\(((w1.setCell ⟨g,0,none⟩ x0).setCell ⟨g,1,none⟩ x1).setCell ⟨g,2,none⟩ x2).cell? ⟨b0,o0,none⟩=some u0/\(((w1.setCell ⟨g,0,none⟩ x0).setCell ⟨g,1,none⟩ x1).setCell ⟨g,2,none⟩ x2).cell? ⟨b1,o1,none⟩=some u1/\(((w1.setCell ⟨g,0,none⟩ x0).setCell ⟨g,1,none⟩ x1).setCell ⟨g,2,none⟩ x2).cell? ⟨b2,o2,none⟩=some u2/\(((w1.setCell ⟨g,0,none⟩ x0).setCell ⟨g,1,none⟩ x1).setCell ⟨g,2,none⟩ x2).cell? ⟨g,0,none⟩=some (was (((w1.setCell ⟨g,0,none⟩ x0).setCell ⟨g,1,none⟩ x1).setCell ⟨g,2,none⟩ x2) g 0)/\(((w1.setCell ⟨g,0,none⟩ x0).setCell ⟨g,1,none⟩ x1).setCell ⟨g,2,none⟩ x2).cell? ⟨g,1,none⟩=some (was (((w1.setCell ⟨g,0,none⟩ x0).setCell ⟨g,1,none⟩ x1).setCell ⟨g,2,none⟩ x2) g 1)/\(((w1.setCell ⟨g,0,none⟩ x0).setCell ⟨g,1,none⟩ x1).setCell ⟨g,2,none⟩ x2).cell? ⟨g,2,none⟩=some (was (((w1.setCell ⟨g,0,none⟩ x0).setCell ⟨g,1,none⟩ x1).setCell ⟨g,2,none⟩ x2) g 2)/\(((w1.setCell ⟨g,0,none⟩ x0).setCell ⟨g,1,none⟩ x1).setCell ⟨g,2,none⟩ x2).frozen? ⟨g,0,none⟩=false/\(((w1.setCell ⟨g,0,none⟩ x0).setCell ⟨g,1,none⟩ x1).setCell ⟨g,2,none⟩ x2).frozen? ⟨g,1,none⟩=false/\(((w1.setCell ⟨g,0,none⟩ x0).setCell ⟨g,1,none⟩ x1).setCell ⟨g,2,none⟩ x2).frozen? ⟨g,2,none⟩=false:=by
 obtain⟨_,k0⟩:=AD (g:=g) (i:=0) (u:=x0) h.2.2.2.2.1;obtain⟨_,k0⟩:=AD (g:=g) (i:=1) (u:=x1) k0;obtain⟨_,k0⟩:=AD (g:=g) (i:=2) (u:=x2) k0;obtain⟨_,k1⟩:=AD (g:=g) (i:=0) (u:=x0) h.2.2.2.2.2.1;obtain⟨_,k1⟩:=AD (g:=g) (i:=1) (u:=x1) k1;obtain⟨_,k1⟩:=AD (g:=g) (i:=2) (u:=x2) k1;obtain⟨_,k2⟩:=AD (g:=g) (i:=0) (u:=x0) h.2.2.2.2.2.2.1;obtain⟨_,k2⟩:=AD (g:=g) (i:=1) (u:=x1) k2;obtain⟨_,k2⟩:=AD (g:=g) (i:=2) (u:=x2) k2;exact⟨(((h.1.setCell hg _).setCell hg _).setCell hg _),(Al (Al (Al h.2.1 n0) n0) n0),(Al (Al (Al h.2.2.1 n1) n1) n1),(Al (Al (Al h.2.2.2.1 n2) n2) n2),Ag k0,Ag k1,Ag k2,(AN (AN (AN h.2.2.2.2.2.2.2.1))),(AN (AN (AN h.2.2.2.2.2.2.2.2.1))),(AN (AN (AN h.2.2.2.2.2.2.2.2.2)))⟩
theorem Gl{w w1 w2:World}{g b0 o0 b1 o1 b2 o2 b3 o3 b4 o4:Nat}{u0 u1 u2 u3 u4:Value}(h:Ext w w1/\w1.cell? ⟨b0,o0,none⟩=some u0/\w1.cell? ⟨b1,o1,none⟩=some u1/\w1.cell? ⟨b2,o2,none⟩=some u2/\w1.cell? ⟨b3,o3,none⟩=some u3/\w1.cell? ⟨b4,o4,none⟩=some u4/\w1.cell? ⟨g,0,none⟩=some (was w1 g 0)/\w1.cell? ⟨g,1,none⟩=some (was w1 g 1)/\w1.cell? ⟨g,2,none⟩=some (was w1 g 2)/\w1.frozen? ⟨g,0,none⟩=false/\w1.frozen? ⟨g,1,none⟩=false/\w1.frozen? ⟨g,2,none⟩=false)(hx:Ext w1 w2):Ext w w2/\w2.cell? ⟨b0,o0,none⟩=some u0/\w2.cell? ⟨b1,o1,none⟩=some u1/\w2.cell? ⟨b2,o2,none⟩=some u2/\w2.cell? ⟨b3,o3,none⟩=some u3/\w2.cell? ⟨b4,o4,none⟩=some u4/\w2.cell? ⟨g,0,none⟩=some (was w2 g 0)/\w2.cell? ⟨g,1,none⟩=some (was w2 g 1)/\w2.cell? ⟨g,2,none⟩=some (was w2 g 2)/\w2.frozen? ⟨g,0,none⟩=false/\w2.frozen? ⟨g,1,none⟩=false/\w2.frozen? ⟨g,2,none⟩=false:=
 ⟨h.1.trans hx,hx.keep h.2.1,hx.keep h.2.2.1,hx.keep h.2.2.2.1,hx.keep h.2.2.2.2.1,hx.keep h.2.2.2.2.2.1,Ag (hx.keep h.2.2.2.2.2.2.1),Ag (hx.keep h.2.2.2.2.2.2.2.1),Ag (hx.keep h.2.2.2.2.2.2.2.2.1),hx.keepf h.2.2.2.2.2.2.1 h.2.2.2.2.2.2.2.2.2.1,hx.keepf h.2.2.2.2.2.2.2.1 h.2.2.2.2.2.2.2.2.2.2.1,hx.keepf h.2.2.2.2.2.2.2.2.1 h.2.2.2.2.2.2.2.2.2.2.2⟩
theorem Dy{w w1:World}{g b0 o0 b1 o1 b2 o2 b3 o3 b4 o4:Nat}{u0 u1 u2 u3 u4:Value}{x0 x1 x2:Value}(h:Ext w w1/\w1.cell? ⟨b0,o0,none⟩=some u0/\w1.cell? ⟨b1,o1,none⟩=some u1/\w1.cell? ⟨b2,o2,none⟩=some u2/\w1.cell? ⟨b3,o3,none⟩=some u3/\w1.cell? ⟨b4,o4,none⟩=some u4/\w1.cell? ⟨g,0,none⟩=some (was w1 g 0)/\w1.cell? ⟨g,1,none⟩=some (was w1 g 1)/\w1.cell? ⟨g,2,none⟩=some (was w1 g 2)/\w1.frozen? ⟨g,0,none⟩=false/\w1.frozen? ⟨g,1,none⟩=false/\w1.frozen? ⟨g,2,none⟩=false)(hg:w.heap.size<=g)(n0:b0≠g)(n1:b1≠g)(n2:b2≠g)(n3:b3≠g)(n4:b4≠g):Ext w (((w1.setCell ⟨g,0,none⟩ x0).setCell ⟨g,1,none⟩ x1).setCell ⟨g,2,none⟩ x2)/\(((w1.setCell ⟨g,0,none⟩ x0).setCell ⟨g,1,none⟩ x1).setCell ⟨g,2,none⟩ x2).cell? ⟨b0,o0,none⟩=some u0/\(((w1.setCell ⟨g,0,none⟩ x0).setCell ⟨g,1,none⟩ x1).setCell ⟨g,2,none⟩ x2).cell? ⟨b1,o1,none⟩=some u1/\(((w1.setCell ⟨g,0,none⟩ x0).setCell ⟨g,1,none⟩ x1).setCell ⟨g,2,none⟩ x2).cell? ⟨b2,o2,none⟩=some u2/\(((w1.setCell ⟨g,0,none⟩ x0).setCell ⟨g,1,none⟩ x1).setCell ⟨g,2,none⟩ x2).cell? ⟨b3,o3,none⟩=some u3/\(((w1.setCell ⟨g,0,none⟩ x0).setCell ⟨g,1,none⟩ x1).setCell ⟨g,2,none⟩ x2).cell? ⟨b4,o4,none⟩=some u4/\(((w1.setCell ⟨g,0,none⟩ x0).setCell ⟨g,1,none⟩ x1).setCell ⟨g,2,none⟩ x2).cell? ⟨g,0,none⟩=some (was (((w1.setCell ⟨g,0,none⟩ x0).setCell ⟨g,1,none⟩ x1).setCell ⟨g,2,none⟩ x2) g 0)/\(((w1.setCell ⟨g,0,none⟩ x0).setCell ⟨g,1,none⟩ x1).setCell ⟨g,2,none⟩ x2).cell? ⟨g,1,none⟩=some (was (((w1.setCell ⟨g,0,none⟩ x0).setCell ⟨g,1,none⟩ x1).setCell ⟨g,2,none⟩ x2) g 1)/\(((w1.setCell ⟨g,0,none⟩ x0).setCell ⟨g,1,none⟩ x1).setCell ⟨g,2,none⟩ x2).cell? ⟨g,2,none⟩=some (was (((w1.setCell ⟨g,0,none⟩ x0).setCell ⟨g,1,none⟩ x1).setCell ⟨g,2,none⟩ x2) g 2)/\(((w1.setCell ⟨g,0,none⟩ x0).setCell ⟨g,1,none⟩ x1).setCell ⟨g,2,none⟩ x2).frozen? ⟨g,0,none⟩=false/\(((w1.setCell ⟨g,0,none⟩ x0).setCell ⟨g,1,none⟩ x1).setCell ⟨g,2,none⟩ x2).frozen? ⟨g,1,none⟩=false/\(((w1.setCell ⟨g,0,none⟩ x0).setCell ⟨g,1,none⟩ x1).setCell ⟨g,2,none⟩ x2).frozen? ⟨g,2,none⟩=false:=by
 obtain⟨_,k0⟩:=AD (g:=g) (i:=0) (u:=x0) h.2.2.2.2.2.2.1;obtain⟨_,k0⟩:=AD (g:=g) (i:=1) (u:=x1) k0;obtain⟨_,k0⟩:=AD (g:=g) (i:=2) (u:=x2) k0;obtain⟨_,k1⟩:=AD (g:=g) (i:=0) (u:=x0) h.2.2.2.2.2.2.2.1;obtain⟨_,k1⟩:=AD (g:=g) (i:=1) (u:=x1) k1;obtain⟨_,k1⟩:=AD (g:=g) (i:=2) (u:=x2) k1;obtain⟨_,k2⟩:=AD (g:=g) (i:=0) (u:=x0) h.2.2.2.2.2.2.2.2.1;obtain⟨_,k2⟩:=AD (g:=g) (i:=1) (u:=x1) k2;obtain⟨_,k2⟩:=AD (g:=g) (i:=2) (u:=x2) k2;exact⟨(((h.1.setCell hg _).setCell hg _).setCell hg _),(Al (Al (Al h.2.1 n0) n0) n0),(Al (Al (Al h.2.2.1 n1) n1) n1),(Al (Al (Al h.2.2.2.1 n2) n2) n2),(Al (Al (Al h.2.2.2.2.1 n3) n3) n3),(Al (Al (Al h.2.2.2.2.2.1 n4) n4) n4),Ag k0,Ag k1,Ag k2,(AN (AN (AN h.2.2.2.2.2.2.2.2.2.1))),(AN (AN (AN h.2.2.2.2.2.2.2.2.2.2.1))),(AN (AN (AN h.2.2.2.2.2.2.2.2.2.2.2)))⟩
theorem Em{w w1 w2:World}{g b0 o0 b1 o1 b2 o2 b3 o3 b4 o4 b5 o5:Nat}{u0 u1 u2 u3 u4 u5:Value}(h:Ext w w1/\w1.cell? ⟨b0,o0,none⟩=some u0/\w1.cell? ⟨b1,o1,none⟩=some u1/\w1.cell? ⟨b2,o2,none⟩=some u2/\w1.cell? ⟨b3,o3,none⟩=some u3/\w1.cell? ⟨b4,o4,none⟩=some u4/\w1.cell? ⟨b5,o5,none⟩=some u5/\w1.cell? ⟨g,0,none⟩=some (was w1 g 0)/\w1.cell? ⟨g,1,none⟩=some (was w1 g 1)/\w1.cell? ⟨g,2,none⟩=some (was w1 g 2)/\w1.frozen? ⟨g,0,none⟩=false/\w1.frozen? ⟨g,1,none⟩=false/\w1.frozen? ⟨g,2,none⟩=false)(hx:Ext w1 w2):Ext w w2/\w2.cell? ⟨b0,o0,none⟩=some u0/\w2.cell? ⟨b1,o1,none⟩=some u1/\w2.cell? ⟨b2,o2,none⟩=some u2/\w2.cell? ⟨b3,o3,none⟩=some u3/\w2.cell? ⟨b4,o4,none⟩=some u4/\w2.cell? ⟨b5,o5,none⟩=some u5/\w2.cell? ⟨g,0,none⟩=some (was w2 g 0)/\w2.cell? ⟨g,1,none⟩=some (was w2 g 1)/\w2.cell? ⟨g,2,none⟩=some (was w2 g 2)/\w2.frozen? ⟨g,0,none⟩=false/\w2.frozen? ⟨g,1,none⟩=false/\w2.frozen? ⟨g,2,none⟩=false:=
 ⟨h.1.trans hx,hx.keep h.2.1,hx.keep h.2.2.1,hx.keep h.2.2.2.1,hx.keep h.2.2.2.2.1,hx.keep h.2.2.2.2.2.1,hx.keep h.2.2.2.2.2.2.1,Ag (hx.keep h.2.2.2.2.2.2.2.1),Ag (hx.keep h.2.2.2.2.2.2.2.2.1),Ag (hx.keep h.2.2.2.2.2.2.2.2.2.1),hx.keepf h.2.2.2.2.2.2.2.1 h.2.2.2.2.2.2.2.2.2.2.1,hx.keepf h.2.2.2.2.2.2.2.2.1 h.2.2.2.2.2.2.2.2.2.2.2.1,hx.keepf h.2.2.2.2.2.2.2.2.2.1 h.2.2.2.2.2.2.2.2.2.2.2.2⟩
theorem Cy{w w1:World}{g b0 o0 b1 o1 b2 o2 b3 o3 b4 o4 b5 o5:Nat}{u0 u1 u2 u3 u4 u5:Value}{x0 x1 x2:Value}(h:Ext w w1/\w1.cell? ⟨b0,o0,none⟩=some u0/\w1.cell? ⟨b1,o1,none⟩=some u1/\w1.cell? ⟨b2,o2,none⟩=some u2/\w1.cell? ⟨b3,o3,none⟩=some u3/\w1.cell? ⟨b4,o4,none⟩=some u4/\w1.cell? ⟨b5,o5,none⟩=some u5/\w1.cell? ⟨g,0,none⟩=some (was w1 g 0)/\w1.cell? ⟨g,1,none⟩=some (was w1 g 1)/\w1.cell? ⟨g,2,none⟩=some (was w1 g 2)/\w1.frozen? ⟨g,0,none⟩=false/\w1.frozen? ⟨g,1,none⟩=false/\w1.frozen? ⟨g,2,none⟩=false)(hg:w.heap.size<=g)(n0:b0≠g)(n1:b1≠g)(n2:b2≠g)(n3:b3≠g)(n4:b4≠g)(n5:b5≠g):Ext w (((w1.setCell ⟨g,0,none⟩ x0).setCell ⟨g,1,none⟩ x1).setCell ⟨g,2,none⟩ x2)/\(((w1.setCell ⟨g,0,none⟩ x0).setCell ⟨g,1,none⟩ x1).setCell ⟨g,2,none⟩ x2).cell? ⟨b0,o0,none⟩=some u0/\(((w1.setCell ⟨g,0,none⟩ x0).setCell ⟨g,1,none⟩ x1).setCell ⟨g,2,none⟩ x2).cell? ⟨b1,o1,none⟩=some u1/\(((w1.setCell ⟨g,0,none⟩ x0).setCell ⟨g,1,none⟩ x1).setCell ⟨g,2,none⟩ x2).cell? ⟨b2,o2,none⟩=some u2/\(((w1.setCell ⟨g,0,none⟩ x0).setCell ⟨g,1,none⟩ x1).setCell ⟨g,2,none⟩ x2).cell? ⟨b3,o3,none⟩=some u3/\(((w1.setCell ⟨g,0,none⟩ x0).setCell ⟨g,1,none⟩ x1).setCell ⟨g,2,none⟩ x2).cell? ⟨b4,o4,none⟩=some u4/\(((w1.setCell ⟨g,0,none⟩ x0).setCell ⟨g,1,none⟩ x1).setCell ⟨g,2,none⟩ x2).cell? ⟨b5,o5,none⟩=some u5/\(((w1.setCell ⟨g,0,none⟩ x0).setCell ⟨g,1,none⟩ x1).setCell ⟨g,2,none⟩ x2).cell? ⟨g,0,none⟩=some (was (((w1.setCell ⟨g,0,none⟩ x0).setCell ⟨g,1,none⟩ x1).setCell ⟨g,2,none⟩ x2) g 0)/\(((w1.setCell ⟨g,0,none⟩ x0).setCell ⟨g,1,none⟩ x1).setCell ⟨g,2,none⟩ x2).cell? ⟨g,1,none⟩=some (was (((w1.setCell ⟨g,0,none⟩ x0).setCell ⟨g,1,none⟩ x1).setCell ⟨g,2,none⟩ x2) g 1)/\(((w1.setCell ⟨g,0,none⟩ x0).setCell ⟨g,1,none⟩ x1).setCell ⟨g,2,none⟩ x2).cell? ⟨g,2,none⟩=some (was (((w1.setCell ⟨g,0,none⟩ x0).setCell ⟨g,1,none⟩ x1).setCell ⟨g,2,none⟩ x2) g 2)/\(((w1.setCell ⟨g,0,none⟩ x0).setCell ⟨g,1,none⟩ x1).setCell ⟨g,2,none⟩ x2).frozen? ⟨g,0,none⟩=false/\(((w1.setCell ⟨g,0,none⟩ x0).setCell ⟨g,1,none⟩ x1).setCell ⟨g,2,none⟩ x2).frozen? ⟨g,1,none⟩=false/\(((w1.setCell ⟨g,0,none⟩ x0).setCell ⟨g,1,none⟩ x1).setCell ⟨g,2,none⟩ x2).frozen? ⟨g,2,none⟩=false:=by
 obtain⟨_,k0⟩:=AD (g:=g) (i:=0) (u:=x0) h.2.2.2.2.2.2.2.1;obtain⟨_,k0⟩:=AD (g:=g) (i:=1) (u:=x1) k0;obtain⟨_,k0⟩:=AD (g:=g) (i:=2) (u:=x2) k0;obtain⟨_,k1⟩:=AD (g:=g) (i:=0) (u:=x0) h.2.2.2.2.2.2.2.2.1;obtain⟨_,k1⟩:=AD (g:=g) (i:=1) (u:=x1) k1;obtain⟨_,k1⟩:=AD (g:=g) (i:=2) (u:=x2) k1;obtain⟨_,k2⟩:=AD (g:=g) (i:=0) (u:=x0) h.2.2.2.2.2.2.2.2.2.1;obtain⟨_,k2⟩:=AD (g:=g) (i:=1) (u:=x1) k2;obtain⟨_,k2⟩:=AD (g:=g) (i:=2) (u:=x2) k2;exact⟨(((h.1.setCell hg _).setCell hg _).setCell hg _),(Al (Al (Al h.2.1 n0) n0) n0),(Al (Al (Al h.2.2.1 n1) n1) n1),(Al (Al (Al h.2.2.2.1 n2) n2) n2),(Al (Al (Al h.2.2.2.2.1 n3) n3) n3),(Al (Al (Al h.2.2.2.2.2.1 n4) n4) n4),(Al (Al (Al h.2.2.2.2.2.2.1 n5) n5) n5),Ag k0,Ag k1,Ag k2,(AN (AN (AN h.2.2.2.2.2.2.2.2.2.2.1))),(AN (AN (AN h.2.2.2.2.2.2.2.2.2.2.2.1))),(AN (AN (AN h.2.2.2.2.2.2.2.2.2.2.2.2)))⟩
theorem AK{w:World}{p q:Addr}{v u:Value}(h:(w.setCell p v).cell? q=some u):∃u',w.cell? q=some u':=by
 by_cases e:p=q
 ·subst e;cases hc:w.cell? p with
  |some u'=>exact⟨u',rfl⟩
  |none=>
   exfalso
   simp only[World.setCell,World.cell?,Array.getElem?_modify,if_true]at h;unfold World.cell? at hc;cases hb:w.heap[p.block]? with
   |none=>rw[hb]at h;simp at h
   |some x=>
    rw[hb]at h hc;cases x with
    |cells c t f=>
     simp at h hc;split at h
     ·simp_all
     ·obtain⟨hs,h⟩:=h;have ew:=hc hs;rw[Array.getElem?_eq_none (by simpa using ew)]at h;cases h
    |_=>simp at h
 ·rw[World.cell?_setCell_other _ _ _ _ e]at h;exact⟨u,h⟩
theorem GV{w:World}{g:Nat}{a b u u':Value}(h0:((w.setCell ⟨g,0,none⟩ a).setCell ⟨g,1,none⟩ b).cell? ⟨g,0,none⟩=some u)(h1:((w.setCell ⟨g,0,none⟩ a).setCell ⟨g,1,none⟩ b).cell? ⟨g,1,none⟩=some u'):
  (w.setCell ⟨g,0,none⟩ a).cell? ⟨g,0,none⟩=some a/\((w.setCell ⟨g,0,none⟩ a).setCell ⟨g,1,none⟩ b).cell? ⟨g,1,none⟩=some b:=by
 obtain⟨_,k0⟩:=AK h0;obtain⟨_,k0⟩:=AK k0;obtain⟨_,k1⟩:=AK h1;exact⟨World.cell?_setCell_same _ _ _ k0,World.cell?_setCell_same _ _ _ k1⟩
theorem AL.put{w w1 w':World}{g:Nat}{bi:Bool}{m:Value}{z:Int}(hi:AL w1.heap.size w' (.agg #[.bool bi,m]) z)(hg:g<w1.heap.size)(hw:w.heap.size<=w1.heap.size):
  AL w.heap.size ((w'.setCell ⟨g,0,none⟩ (.bool bi)).setCell ⟨g,1,none⟩ m) (.agg #[.bool bi,m]) z:=((hi.far hg _).far hg _).mono hw
end Big
end Go.Proofs.YtkoaogkknnelaaaGreatDoor
