import Derived.Test.YtkoaogkknnelaaaGreatDoorM15
set_option linter.unusedVariables false
set_option linter.unusedSimpArgs false
set_option maxRecDepth 100000
namespace Go.Proofs.YtkoaogkknnelaaaGreatDoor
namespace Big
open Lib (hid)
open Go.RowKit
theorem LJ(l:List UInt8):C0 l=(!(l == []) && decide (l.length<=24) && D2 (Af l 0) && l.all (fun c=>BQ c.toNat)):=rfl
theorem JN{l:List UInt8}{i:Nat}(h:i<l.length)(hf:BQ (Af l i)=false):l.all (fun c=>BQ c.toNat)=false:=by
 rw[List.all_eq_false];exact⟨l[i],List.getElem_mem h,by rw[<-Bz l i h,hf];simp⟩
theorem J8{l:List UInt8}(h:∀i,i<l.length->BQ (Af l i)=true):l.all (fun c=>BQ c.toNat)=true:=by
 rw[List.all_eq_true];intro c hc;obtain⟨i,hi,rfl⟩:=List.getElem_of_mem hc;rw[<-Bz l i hi];exact h i hi
theorem LI(w:World)(l:List UInt8)(hl:l.length<=1073741824):Calls Tryz.prog 94 #[str l] w fun e w'=>e= .returned (.bool (C0 l))/\w=w':=by
 have H:=hid (LJ l);rcases Nat.eq_zero_or_pos l.length with h0|h0
 ·obtain rfl:l=[]:=List.eq_nil_of_length_eq_zero h0;have HR:Hid (C0 []=false):=hid rfl;have he:(([]:List UInt8) == [])=true:=rfl;clear h0 H;go_enter Tryz.func94,Tryz.ntmps94;go_wp2_with fail;go_ret;rw[HR.out];exact⟨rfl,rfl⟩
 ·have he:(l == [])=false:=by cases l<;>simp_all
  have h0i:(0:Int)<(l.length:Int):=by omega
  rcases Nat.lt_or_ge 24 l.length with h24|h24
  ·have HR:Hid (C0 l=false):=hid (by rw[H.out,decide_eq_false (by omega)];simp);have hd:(24:Int)<(l.length:Int):=by omega
   clear H h0 h24;go_enter Tryz.func94,Tryz.ntmps94;go_wp2_with fail;go_ret;rw[HR.out];exact⟨rfl,rfl⟩
  ·have hd:¬(24:Int)<(l.length:Int):=by omega
   have eN:decide ((24:Int)<(l.length:Int))=false:=by simp;omega
   have eP:=CJ l 0;have dM:=hid (fun W=>GI W (Af l 0) eP);cases hlet:D2 (Af l 0)
   ·have HR:Hid (C0 l=false):=hid (by rw[H.out,hlet];simp);rw[hlet]at dM;clear H h0 h24 hlet;go_enter Tryz.func94,Tryz.ntmps94;go_wp2_with fail;refine(dM.out _).mono ?_
    rintro e w1 ⟨rfl,rfl⟩;go_wp2_with fail;go_ret;rw[HR.out];exact⟨rfl,rfl⟩
   ·have HR:Hid (C0 l=l.all (fun c=>BQ c.toNat)):=hid (by rw[H.out,hlet,he,decide_eq_true h24];simp);rw[hlet]at dM;clear H hlet;go_enter Tryz.func94,Tryz.ntmps94;go_wp2_with fail;refine(dM.out _).mono ?_
    rintro e w1 ⟨rfl,rfl⟩;go_wp2_with fail
    go_loop [19] (fun s=>∃i:Nat,i<=l.length/\s= .int .i64 (i:Int)/\Hid (∀j,j<i->BQ (Af l j)=true)) (fun s=>l.length-(intOf s).toNat)
    case atStart=>exact⟨0,Nat.zero_le _,rfl,hid (fun j hj=>by omega)⟩
    case round=>
     obtain⟨i,hi,rfl,HA⟩:=hrel;by_cases hlt:i<l.length
     ·have zN:=CJ l i;have HC:=hid (fun W=>NV W (Af l i) zN);cases hw:BQ (Af l i)
      ·have HF:Hid (C0 l=false):=hid (by rw[HR.out];exact JN hlt hw);rw[hw]at HC;clear hw;go_wp2_with fail;refine(HC.out _).mono ?_
       rintro e w1 ⟨rfl,rfl⟩;go_wp2_with fail;go_ret;rw[HF.out];exact⟨rfl,rfl⟩
      ·have HN:Hid (∀j,j<i+1->BQ (Af l j)=true):=hid (fun j hj=>by
        rcases Nat.lt_or_ge j i with h1|h1
        ·exact HA.out j h1
        ·obtain rfl:j=i:=by omega
         exact hw)
       rw[hw]at HC;clear hw;go_wp2_with fail;refine(HC.out _).mono ?_
       rintro e w1 ⟨rfl,rfl⟩;go_wp2_with fail
       go_round
       case rel=>exact⟨i+1,by omega,by go_num,HN⟩
       case measure=>simp[intOf];omega
     ·obtain rfl:i=l.length:=by omega
      have HF:Hid (C0 l=true):=hid (by rw[HR.out];exact J8 HA.out);go_wp2_with fail;go_ret;rw[HF.out];exact⟨rfl,rfl⟩
def BD:List (List UInt8):=[[112,105],[101],[115,113,114,116],[101,120,112],[108,110],[115,105,110],[99,111,115],[97,116,97,110]]
def Bw(l:List UInt8):Nat:=if l=[115,113,114,116] then 11 else if l=[101,120,112] then 12 else if l=[108,110] then 13 else if l=[115,105,110] then 14 else if l=[99,111,115] then 15 else if l=[97,116,97,110] then 16 else 0
def Bk(l:List UInt8):Bool:=l == [112,105] || l == [101] || Bw l != 0
theorem Lp(w:World)(l:List UInt8):Calls Tryz.prog 152 #[str l] w fun e w'=>e= .returned (.int .i64 (Bw l:Int))/\w=w':=by
 have H:Hid (Bw l=if l=[115,113,114,116] then 11 else if l=[101,120,112] then 12 else if l=[108,110] then 13 else if l=[115,105,110] then 14 else if l=[99,111,115] then 15 else if l=[97,116,97,110] then 16 else 0):=hid rfl;by_cases h0:l=[115,113,114,116]
 ·have HR:Hid (Bw l=11):=hid (by rw[H.out,if_pos h0]);have b0:(l == [115,113,114,116])=true:=by rw[beq_iff_eq];exact h0
  clear H h0;go_enter Tryz.func152,Tryz.ntmps152;go_wp2_with fail;go_ret;rw[HR.out];exact⟨rfl,rfl⟩
 by_cases h1:l=[101,120,112]
 ·have HR:Hid (Bw l=12):=hid (by rw[H.out,if_neg h0,if_pos h1]);have b0:(l == [115,113,114,116])=false:=by rw[beq_eq_false_iff_ne];exact h0
  have b1:(l == [101,120,112])=true:=by rw[beq_iff_eq];exact h1
  clear H h0 h1;go_enter Tryz.func152,Tryz.ntmps152;go_wp2_with fail;go_ret;rw[HR.out];exact⟨rfl,rfl⟩
 by_cases h2:l=[108,110]
 ·have HR:Hid (Bw l=13):=hid (by rw[H.out,if_neg h0,if_neg h1,if_pos h2]);have b0:(l == [115,113,114,116])=false:=by rw[beq_eq_false_iff_ne];exact h0
  have b1:(l == [101,120,112])=false:=by rw[beq_eq_false_iff_ne];exact h1
  have b2:(l == [108,110])=true:=by rw[beq_iff_eq];exact h2
  clear H h0 h1 h2;go_enter Tryz.func152,Tryz.ntmps152;go_wp2_with fail;go_ret;rw[HR.out];exact⟨rfl,rfl⟩
 by_cases h3:l=[115,105,110]
 ·have HR:Hid (Bw l=14):=hid (by rw[H.out,if_neg h0,if_neg h1,if_neg h2,if_pos h3]);have b0:(l == [115,113,114,116])=false:=by rw[beq_eq_false_iff_ne];exact h0
  have b1:(l == [101,120,112])=false:=by rw[beq_eq_false_iff_ne];exact h1
  have b2:(l == [108,110])=false:=by rw[beq_eq_false_iff_ne];exact h2
  have b3:(l == [115,105,110])=true:=by rw[beq_iff_eq];exact h3
  clear H h0 h1 h2 h3;go_enter Tryz.func152,Tryz.ntmps152;go_wp2_with fail;go_ret;rw[HR.out];exact⟨rfl,rfl⟩
 by_cases h4:l=[99,111,115]
 ·have HR:Hid (Bw l=15):=hid (by rw[H.out,if_neg h0,if_neg h1,if_neg h2,if_neg h3,if_pos h4]);have b0:(l == [115,113,114,116])=false:=by rw[beq_eq_false_iff_ne];exact h0
  have b1:(l == [101,120,112])=false:=by rw[beq_eq_false_iff_ne];exact h1
  have b2:(l == [108,110])=false:=by rw[beq_eq_false_iff_ne];exact h2
  have b3:(l == [115,105,110])=false:=by rw[beq_eq_false_iff_ne];exact h3
  have b4:(l == [99,111,115])=true:=by rw[beq_iff_eq];exact h4
  clear H h0 h1 h2 h3 h4;go_enter Tryz.func152,Tryz.ntmps152;go_wp2_with fail;go_ret;rw[HR.out];exact⟨rfl,rfl⟩
 by_cases h5:l=[97,116,97,110]
 ·have HR:Hid (Bw l=16):=hid (by rw[H.out,if_neg h0,if_neg h1,if_neg h2,if_neg h3,if_neg h4,if_pos h5]);have b0:(l == [115,113,114,116])=false:=by rw[beq_eq_false_iff_ne];exact h0
  have b1:(l == [101,120,112])=false:=by rw[beq_eq_false_iff_ne];exact h1
  have b2:(l == [108,110])=false:=by rw[beq_eq_false_iff_ne];exact h2
  have b3:(l == [115,105,110])=false:=by rw[beq_eq_false_iff_ne];exact h3
  have b4:(l == [99,111,115])=false:=by rw[beq_eq_false_iff_ne];exact h4
  have b5:(l == [97,116,97,110])=true:=by rw[beq_iff_eq];exact h5
  clear H h0 h1 h2 h3 h4 h5;go_enter Tryz.func152,Tryz.ntmps152;go_wp2_with fail;go_ret;rw[HR.out];exact⟨rfl,rfl⟩
 have HR:Hid (Bw l=0):=hid (by rw[H.out,if_neg h0,if_neg h1,if_neg h2,if_neg h3,if_neg h4,if_neg h5]);have b0:(l == [115,113,114,116])=false:=by rw[beq_eq_false_iff_ne];exact h0
 have b1:(l == [101,120,112])=false:=by rw[beq_eq_false_iff_ne];exact h1
 have b2:(l == [108,110])=false:=by rw[beq_eq_false_iff_ne];exact h2
 have b3:(l == [115,105,110])=false:=by rw[beq_eq_false_iff_ne];exact h3
 have b4:(l == [99,111,115])=false:=by rw[beq_eq_false_iff_ne];exact h4
 have b5:(l == [97,116,97,110])=false:=by rw[beq_eq_false_iff_ne];exact h5
 clear H h0 h1 h2 h3 h4 h5;go_enter Tryz.func152,Tryz.ntmps152;go_wp2_with fail;go_ret;rw[HR.out];exact⟨rfl,rfl⟩
theorem Gr(w:World)(l:List UInt8):Calls Tryz.prog 95 #[str l] w fun e w'=>e= .returned (.bool (Bk l))/\w=w':=by
 have H:Hid (Bk l=(l == [112,105] || l == [101] || Bw l != 0)):=hid rfl;have HF:=hid (fun W=>Lp W l);cases b0:(l == [112,105])
 ·cases b1:(l == [101])
  ·have hk:((Bw l:Int) != 0)=(Bw l != 0):=by rw[Bool.eq_iff_iff];simp
   cases b2:(Bw l != 0)
   all_goals
    rw[b2]at hk;rw[b0,b1,b2]at H;clear b2;go_enter Tryz.func95,Tryz.ntmps95;go_wp2_with fail;refine(HF.out _).mono ?_
    rintro e w1 ⟨rfl,rfl⟩;go_wp2_with fail;go_ret;rw[H.out];exact⟨rfl,rfl⟩
  ·rw[b0,b1]at H;go_enter Tryz.func95,Tryz.ntmps95;go_wp2_with fail;go_ret;rw[H.out];exact⟨rfl,rfl⟩
 ·rw[b0]at H;go_enter Tryz.func95,Tryz.ntmps95;go_wp2_with fail;go_ret;rw[H.out];exact⟨rfl,rfl⟩
theorem J9(w:World):Calls Tryz.prog 197 #[] w fun e w'=>∃v,e= .returned v/\QF w.heap.size w' v BD/\Ext w w':=by
 go_enter Tryz.func197,Tryz.ntmps197;go_wp2_with fail;go_ret;exact⟨_,rfl,QF.block (ls:=BD) (Blk.new w 9 _) (Nat.le_refl _) (by decide),(Ext.refl w).alloc _⟩
theorem Ct(l:List UInt8):Bk l=BD.contains l:=by
 have h:Bk l=(l == [112,105] || l == [101] || l == [115,113,114,116] || l == [101,120,112] || l == [108,110] || l == [115,105,110] || l == [99,111,115] || l == [97,116,97,110]):=by
  unfold Bk;by_cases h0:l=[115,113,114,116]
  ·subst h0;rfl
  by_cases h1:l=[101,120,112]
  ·subst h1;rfl
  by_cases h2:l=[108,110]
  ·subst h2;rfl
  by_cases h3:l=[115,105,110]
  ·subst h3;rfl
  by_cases h4:l=[99,111,115]
  ·subst h4;rfl
  by_cases h5:l=[97,116,97,110]
  ·subst h5;rfl
  unfold Bw;rw[if_neg h0,if_neg h1,if_neg h2,if_neg h3,if_neg h4,if_neg h5];rw[beq_false_of_ne h0,beq_false_of_ne h1,beq_false_of_ne h2,beq_false_of_ne h3,beq_false_of_ne h4,beq_false_of_ne h5];simp only[Bool.or_false];simp
 rw[h,Bool.eq_iff_iff];unfold BD;simp[or_assoc]
theorem Sh(l:List UInt8)(j:Nat)(hj:j<BD.length)(h1:1<j)(h:l=BD[j]):Bw l=11+j-2:=by
 subst h;have:j=2\/j=3\/j=4\/j=5\/j=6\/j=7:=by
  have:BD.length=8:=rfl;omega
 rcases this with rfl|rfl|rfl|rfl|rfl|rfl<;>rfl
theorem NZ(l:List UInt8)(h:∀j (hj:j<BD.length),1<j->l≠BD[j]):Bw l=0:=by
 have h2:l≠[115,113,114,116]:=h 2 (by decide) (by decide);have h3:l≠[101,120,112]:=h 3 (by decide) (by decide);have h4:l≠[108,110]:=h 4 (by decide) (by decide);have h5:l≠[115,105,110]:=h 5 (by decide) (by decide);have h6:l≠[99,111,115]:=h 6 (by decide) (by decide);have h7:l≠[97,116,97,110]:=h 7 (by decide) (by decide);unfold Bw;rw[if_neg h2,if_neg h3,if_neg h4,if_neg h5,if_neg h6,if_neg h7]
theorem J0(w:World)(l:List UInt8):Calls Tryz.prog 156 #[str l] w fun e w'=>e= .returned (.bool (Bk l))/\Ext w w':=by
 have HW:=hid (fun W=>J9 W);go_enter Tryz.func156,Tryz.ntmps156;go_wp2_with fail;refine(HW.out _).mono ?_
 rintro e w1 ⟨v1,rfl,ho,hx⟩;have HX:=hid hx;obtain⟨A,c,rfl,hc,hm,aa⟩:=ho.arr.open;obtain⟨b,o,rfl,hb,aa⟩:=aa (by decide);have HC:=hid aa;have rQ:BD.length=8:=rfl;have wu:=hid rQ;rw[rQ]at hc ⊢;clear rQ ho hx aa;unfold maxLen at hm;go_wp2_with fail
 go_loop [7] (fun s=>∃i:Nat,i<=8/\s= .int .i64 (i:Int)/\Hid (∀j (hj:j<BD.length),j<i->l≠BD[j])) (fun s=>8-(intOf s).toNat)
 case atStart=>exact⟨0,Nat.zero_le _,rfl,hid (fun j hj h=>by omega)⟩
 case round=>
  obtain⟨i,hi,rfl,HN⟩:=hrel;by_cases hlt:i<8
  ·have dU:i<BD.length:=by rw[wu.out];exact hlt
   have hx:=HC.out i dU;by_cases he:l=BD[i]
   ·have HR:Hid (Bk l=true):=hid (by rw[Ct,List.contains_iff_mem,he];exact List.getElem_mem dU);generalize BD[i]=m at *;have ij:(l == m)=true:=by rw[beq_iff_eq];exact he
    clear he;go_wp2_with fail;go_ret;rw[HR.out];exact⟨rfl,HX.out⟩
   ·have ez:Hid (∀j (hj:j<BD.length),j<i+1->l≠BD[j]):=hid (fun j hj h=>by
     rcases Nat.lt_or_ge j i with h1|h1
     ·exact HN.out j hj h1
     ·obtain rfl:j=i:=by omega
      exact he)
    generalize BD[i]=m at *;have ij:(l == m)=false:=by rw[beq_eq_false_iff_ne];exact he
    clear he;go_wp2_with fail
    go_round
    case rel=>exact⟨i+1,by omega,by go_num,ez⟩
    case measure=>simp[intOf];omega
  ·obtain rfl:i=8:=by omega
   have HR:Hid (Bk l=false):=hid (by
    rw[Ct,Bool.eq_false_iff];intro uV;rw[List.contains_iff_mem]at uV;obtain⟨j,hj,e⟩:=List.getElem_of_mem uV;exact HN.out j hj (by have:=wu.out;omega) e.symm)
   go_wp2_with fail;go_ret;rw[HR.out];exact⟨rfl,HX.out⟩
theorem FS(w:World)(l:List UInt8):Calls Tryz.prog 267 #[str l] w fun e w'=>e= .returned (.int .i64 (Bw l:Int))/\Ext w w':=by
 have HW:=hid (fun W=>J9 W);go_enter Tryz.func267,Tryz.ntmps267;go_wp2_with fail;refine(HW.out _).mono ?_
 rintro e w1 ⟨v1,rfl,ho,hx⟩;have HX:=hid hx;obtain⟨A,c,rfl,hc,hm,aa⟩:=ho.arr.open;obtain⟨b,o,rfl,hb,aa⟩:=aa (by decide);have HC:=hid aa;have rQ:BD.length=8:=rfl;have wu:=hid rQ;rw[rQ]at hc ⊢;clear rQ ho hx aa;unfold maxLen at hm;go_wp2_with fail
 go_loop [7] (fun s=>∃i:Nat,i<=8/\s= .int .i64 (i:Int)/\Hid (∀j (hj:j<BD.length),1<j->j<i->l≠BD[j])) (fun s=>8-(intOf s).toNat)
 case atStart=>exact⟨0,Nat.zero_le _,rfl,hid (fun j hj _ h=>by omega)⟩
 case round=>
  obtain⟨i,hi,rfl,HN⟩:=hrel;by_cases hlt:i<8
  ·have dU:i<BD.length:=by rw[wu.out];exact hlt
   have hx:=HC.out i dU;have jN:=hid (Sh l i dU);have ez:Hid ((1<i->l≠BD[i])->∀j (hj:j<BD.length),1<j->j<i+1->l≠BD[j]):=hid (fun he j hj h0 h=>by
    rcases Nat.lt_or_ge j i with h1|h1
    ·exact HN.out j hj h0 h1
    ·obtain rfl:j=i:=by omega
     exact he h0)
   generalize BD[i]=m at *;by_cases h1:1<i
   ·have h1':(1:Int)<(i:Int):=by omega
    by_cases he:l=m
    ·have HR:=hid (jN.out h1 he);have ij:(l == m)=true:=by rw[beq_iff_eq];exact he
     clear he;go_wp2_with fail;go_ret;exact⟨congrArg (fun z=>Ending.returned (.int .i64 z)) (by rw[HR.out];omega),HX.out⟩
    ·have tn:=hid (ez.out (fun _=>he));have ij:(l == m)=false:=by rw[beq_eq_false_iff_ne];exact he
     clear he;go_wp2_with fail
     go_round
     case rel=>exact⟨i+1,by omega,by go_num,tn⟩
     case measure=>simp[intOf];omega
   ·have tn:=hid (ez.out (fun h=>absurd h h1));have h1':¬(1:Int)<(i:Int):=by omega
    go_wp2_with fail
    go_round
    case rel=>exact⟨i+1,by omega,by go_num,tn⟩
    case measure=>simp[intOf];omega
  ·obtain rfl:i=8:=by omega
   have HR:Hid (Bw l=0):=hid (NZ l (fun j hj h0=>HN.out j hj h0 (by have:=wu.out;omega)));go_wp2_with fail;go_ret;rw[HR.out];exact⟨rfl,HX.out⟩
def Bn(l:List UInt8):Nat:=if D2 (Af l 0) then Aq BQ l else 0
def DI(l:List UInt8)(i:Nat):Bool:=D2 (Af l i) || (decide (0<i) && (Df (Af l i) || Af l i == 95))
theorem F2{p:Nat->Bool}{l:List UInt8}(h:0<l.length)(hp:p (Af l 0)=true):0<Aq p l:=by
 cases l with
 |nil=>simp at h
 |cons c t=>
  have hc:p c.toNat=true:=hp;rw[Aq,if_pos hc];omega
theorem Kj{p:Nat->Bool}{l:List UInt8}{i:Nat}(h:i<Aq p l):p (Af l i)=true:=by
 obtain⟨h1,h2⟩:=Hf p l i h;rw[Bz l i h1];exact h2
theorem I5{p:Nat->Bool}{l:List UInt8}(h:Aq p l<l.length):p (Af l (Aq p l))=false:=by
 rw[Bz l _ h];exact Nj p l h
theorem Ny(l:List UInt8):Bn l<=l.length:=by
 unfold Bn;split
 ·exact Di _ _
 ·exact Nat.zero_le _
theorem Nz{l:List UInt8}{i:Nat}(hi:i<=Bn l)(hl:i<l.length):(DI l i=true/\i<Bn l)\/(DI l i=false/\i=Bn l):=by
 have hw:BQ (Af l i)=(D2 (Af l i) || Df (Af l i) || Af l i == 95):=rfl;unfold Bn at hi ⊢;cases h0:D2 (Af l 0)
 ·rw[h0]at hi;simp only[Bool.false_eq_true,if_false]at hi ⊢;obtain rfl:i=0:=by omega
  exact .inr ⟨by unfold DI;rw[h0];rfl,rfl⟩
 ·rw[h0]at hi;simp only[if_true]at hi ⊢;rcases Nat.eq_zero_or_pos i with hz|hz
  ·subst hz;exact .inl ⟨by unfold DI;rw[h0];rfl,F2 hl (by unfold BQ;rw[h0];rfl)⟩
  ·have hg:DI l i=BQ (Af l i):=by unfold DI;rw[hw,decide_eq_true hz,Bool.true_and,Bool.or_assoc]
   rcases Nat.lt_or_ge i (Aq BQ l) with h1|h1
   ·exact .inl ⟨by rw[hg];exact Kj h1,h1⟩
   ·have:i=Aq BQ l:=by omega
    subst this;exact .inr ⟨by rw[hg];exact I5 hl,rfl⟩
theorem Um{l:List UInt8}{i:Nat}(hi:i<=Aq Cq l)(hl:i<l.length):(Cq (Af l i)=true/\i<Aq Cq l)\/(Cq (Af l i)=false/\i=Aq Cq l):=by
 rcases Nat.lt_or_ge i (Aq Cq l) with h1|h1
 ·exact .inl ⟨Kj h1,h1⟩
 ·have:i=Aq Cq l:=by omega
  subst this;exact .inr ⟨I5 hl,rfl⟩
theorem TO(p:Nat->Bool)(l:List UInt8):l.all (fun c=>p c.toNat)=decide (Aq p l=l.length):=by
 induction l with
 |nil=>rfl
 |cons c t ih=>
  rw[List.all_cons,ih,Aq];cases hc:p c.toNat
  ·simp
  ·have:(Aq p t+1=(c::t).length)↔(Aq p t=t.length):=by simp
   simp
theorem Ka(l:List UInt8):C0 l=(!(l == []) && (decide (l.length<=24) && decide (Bn l=l.length))):=by
 rcases Nat.eq_zero_or_pos l.length with h0|h0
 ·obtain rfl:l=[]:=List.eq_nil_of_length_eq_zero h0;rfl
 ·rw[LJ,TO];unfold Bn;cases h1:D2 (Af l 0)
  ·have:¬(0=l.length):=by omega
   simp[this]
  ·simp[Bool.and_assoc]
theorem Ki(w:World)(l:List UInt8)(hl:l.length<=1073741824):Calls Tryz.prog 123 #[str l] w fun e w'=>e= .returned (.int .i64 (Bn l:Int))/\w=w':=by
 have cp:=Ny l;go_enter Tryz.func123,Tryz.ntmps123;go_wp2_with fail
 go_loop [3] (fun s=>∃i:Nat,i<=Bn l/\s= .int .i64 (i:Int)) (fun s=>l.length-(intOf s).toNat)
 case atStart=>exact⟨0,Nat.zero_le _,rfl⟩
 case round=>
  obtain⟨i,hi,rfl⟩:=hrel;by_cases hlt:i<l.length
  ·have fy:=hid (Nz hi hlt);have eP:=CJ l i;have dM:=hid (fun W=>H8 W (Af l i) eP);have jO:=hid (fun W=>F3 W (Af l i) eP);have vH:(Af l i == 95)=((Af l i:Int) == 95):=by rw[Bool.eq_iff_iff];simp;omega
   have YK:=hid vH;clear vH;cases hlet:D2 (Af l i)
   ·rcases Nat.eq_zero_or_pos i with hz|hz
    ·have HG:Hid (DI l i=false):=hid (by unfold DI;rw[hlet,hz];rfl);have oT:¬(0:Int)<(i:Int):=by omega
     have tK:decide ((0:Int)<(i:Int))=false:=by simp;omega
     rw[hlet]at dM;clear hlet hz;go_wp2_with fail;refine(dM.out _).mono ?_
     rintro e w1 ⟨rfl,rfl⟩;have HN:Hid (i=Bn l):=hid (by
      rcases fy.out with ⟨h,_⟩|⟨_,h⟩
      ·rw[HG.out]at h;cases h
      ·exact h)
     go_wp2_with fail;go_ret;exact⟨by rw[<-HN.out];rfl,rfl⟩
    ·have oT:(0:Int)<(i:Int):=by omega
     have tK:decide ((0:Int)<(i:Int))=true:=by rw[decide_eq_true_iff];omega
     cases hdig:Df (Af l i)
     ·cases h95:((Af l i:Int) == 95)
      ·have HG:Hid (DI l i=false):=hid (by unfold DI;rw[hlet,hdig,YK.out,h95];simp);rw[hlet]at dM;rw[hdig]at jO;clear hlet hz hdig;go_wp2_with fail;refine(dM.out _).mono ?_
       rintro e w1 ⟨rfl,rfl⟩;go_wp2_with fail;refine(jO.out _).mono ?_
       rintro e w1 ⟨rfl,rfl⟩;have HN:Hid (i=Bn l):=hid (by
        rcases fy.out with ⟨h,_⟩|⟨_,h⟩
        ·rw[HG.out]at h;cases h
        ·exact h)
       go_wp2_with fail;go_ret;exact⟨by rw[<-HN.out];rfl,rfl⟩
      ·have HG:Hid (DI l i=true):=hid (by unfold DI;rw[hlet,hdig,YK.out,h95];simp;omega);rw[hlet]at dM;rw[hdig]at jO;clear hlet hz hdig;go_wp2_with fail;refine(dM.out _).mono ?_
       rintro e w1 ⟨rfl,rfl⟩;go_wp2_with fail;refine(jO.out _).mono ?_
       rintro e w1 ⟨rfl,rfl⟩;have HN:Hid (i+1<=Bn l):=hid (by
        rcases fy.out with ⟨_,h⟩|⟨h,_⟩
        ·exact h
        ·rw[HG.out]at h;cases h)
       go_wp2_with fail
       go_round
       case rel=>exact⟨i+1,HN.out,by go_num⟩
       case measure=>simp[intOf];omega
     ·have HG:Hid (DI l i=true):=hid (by unfold DI;rw[hlet,hdig];simp;omega);rw[hlet]at dM;rw[hdig]at jO;clear hlet hz hdig;go_wp2_with fail;refine(dM.out _).mono ?_
      rintro e w1 ⟨rfl,rfl⟩;go_wp2_with fail;refine(jO.out _).mono ?_
      rintro e w1 ⟨rfl,rfl⟩;have HN:Hid (i+1<=Bn l):=hid (by
       rcases fy.out with ⟨_,h⟩|⟨h,_⟩
       ·exact h
       ·rw[HG.out]at h;cases h)
      go_wp2_with fail
      go_round
      case rel=>exact⟨i+1,HN.out,by go_num⟩
      case measure=>simp[intOf];omega
   ·have HG:Hid (DI l i=true):=hid (by unfold DI;rw[hlet];rfl);rw[hlet]at dM;clear hlet;go_wp2_with fail;refine(dM.out _).mono ?_
    rintro e w1 ⟨rfl,rfl⟩;have HN:Hid (i+1<=Bn l):=hid (by
     rcases fy.out with ⟨_,h⟩|⟨h,_⟩
     ·exact h
     ·rw[HG.out]at h;cases h)
    go_wp2_with fail
    go_round
    case rel=>exact⟨i+1,HN.out,by go_num⟩
    case measure=>simp[intOf];omega
  ·have HN:Hid (i=Bn l):=hid (by omega);go_wp2_with fail;go_ret;exact⟨by rw[<-HN.out];rfl,rfl⟩
theorem PI(w:World)(l:List UInt8)(hl:l.length<=1073741824):Calls Tryz.prog 155 #[str l] w fun e w'=>e= .returned (.bool (C0 l))/\w=w':=by
 have H:=hid (Ka l);have HR:=hid (fun W=>Ki W l hl);cases h0:(l == [])
 ·by_cases h24:l.length<=24
  ·have hd:decide ((l.length:Int)<=24)=true:=by rw[decide_eq_true_iff];omega
   have eN:(l.length:Int)<=24:=by omega
   have he:((Bn l:Int) == (l.length:Int))=decide (Bn l=l.length):=by rw[Bool.eq_iff_iff];simp;omega
   rw[h0,decide_eq_true h24]at H;cases h1:decide (Bn l=l.length)
   all_goals
    rw[h1]at he;rw[h1]at H;clear h1;generalize Bn l=r at *;go_enter Tryz.func155,Tryz.ntmps155;go_wp2_with fail;refine(HR.out _).mono ?_
    rintro e w1 ⟨rfl,rfl⟩;go_wp2_with fail;go_ret;rw[H.out];exact⟨rfl,rfl⟩
  ·have hd:decide ((l.length:Int)<=24)=false:=by simp;omega
   have eN:¬(l.length:Int)<=24:=by omega
   rw[h0,decide_eq_false h24]at H;clear h24;go_enter Tryz.func155,Tryz.ntmps155;go_wp2_with fail;go_ret;rw[H.out];exact⟨rfl,rfl⟩
 ·rw[h0]at H;go_enter Tryz.func155,Tryz.ntmps155;go_wp2_with fail;go_ret;rw[H.out];exact⟨rfl,rfl⟩
theorem L1(w:World)(l:List UInt8)(hl:l.length<=1073741824):Calls Tryz.prog 125 #[str l] w fun e w'=>e= .returned (.int .i64 (Aq Cq l:Int))/\w=w':=by
 have cp:=Di Cq l;go_enter Tryz.func125,Tryz.ntmps125;go_wp2_with fail
 go_loop [3] (fun s=>∃i:Nat,i<=Aq Cq l/\s= .int .i64 (i:Int)) (fun s=>l.length-(intOf s).toNat)
 case atStart=>exact⟨0,Nat.zero_le _,rfl⟩
 case round=>
  obtain⟨i,hi,rfl⟩:=hrel;by_cases hlt:i<l.length
  ·have fy:=hid (Um hi hlt);have eP:=CJ l i;have jO:=hid (fun W=>F3 W (Af l i) eP);have vJ:(Af l i == 46)=((Af l i:Int) == 46):=by rw[Bool.eq_iff_iff];simp;omega
   have YL:=hid vJ;clear vJ;cases hdig:Df (Af l i)
   ·rw[hdig]at jO;cases h46:((Af l i:Int) == 46)
    ·have HG:Hid (Cq (Af l i)=false):=hid (by unfold Cq;rw[hdig,YL.out,h46];rfl);clear hdig;go_wp2_with fail;refine(jO.out _).mono ?_
     rintro e w1 ⟨rfl,rfl⟩;have HN:Hid (i=Aq Cq l):=hid (by
      rcases fy.out with ⟨h,_⟩|⟨_,h⟩
      ·rw[HG.out]at h;cases h
      ·exact h)
     go_wp2_with fail;go_ret;exact⟨by rw[<-HN.out];rfl,rfl⟩
    ·have HG:Hid (Cq (Af l i)=true):=hid (by unfold Cq;rw[hdig,YL.out,h46];rfl);clear hdig;go_wp2_with fail;refine(jO.out _).mono ?_
     rintro e w1 ⟨rfl,rfl⟩;have HN:Hid (i+1<=Aq Cq l):=hid (by
      rcases fy.out with ⟨_,h⟩|⟨h,_⟩
      ·exact h
      ·rw[HG.out]at h;cases h)
     go_wp2_with fail
     go_round
     case rel=>exact⟨i+1,HN.out,by go_num⟩
     case measure=>simp[intOf];omega
   ·have HG:Hid (Cq (Af l i)=true):=hid (by unfold Cq;rw[hdig];rfl);rw[hdig]at jO;clear hdig;go_wp2_with fail;refine(jO.out _).mono ?_
    rintro e w1 ⟨rfl,rfl⟩;have HN:Hid (i+1<=Aq Cq l):=hid (by
     rcases fy.out with ⟨_,h⟩|⟨h,_⟩
     ·exact h
     ·rw[HG.out]at h;cases h)
    go_wp2_with fail
    go_round
    case rel=>exact⟨i+1,HN.out,by go_num⟩
    case measure=>simp[intOf];omega
  ·have HN:Hid (i=Aq Cq l):=hid (by omega);go_wp2_with fail;go_ret;exact⟨by rw[<-HN.out];rfl,rfl⟩
theorem Ps(w:World)(n:Nat)(_hn:n<256):Calls Tryz.prog 127 #[.int .u8 (n:Int)] w fun e w'=>e= .returned (.bool (FR n))/\w=w':=by
 have hc:∀k:Nat,(n == k)=((n:Int) == (k:Int)):=fun k=>by rw[Bool.eq_iff_iff];simp;omega
 have H:Hid (FR n=((n:Int) == 43 || (n:Int) == 45 || (n:Int) == 42 || (n:Int) == 47 || (n:Int) == 94 || (n:Int) == 40 || (n:Int) == 41)):=hid (by
  unfold FR;rw[hc 43,hc 45,hc 42,hc 47,hc 94,hc 40,hc 41];rfl)
 clear hc;cases b0:((n:Int) == 43)
 ·skip
  cases b1:((n:Int) == 45)
  ·skip
   cases b2:((n:Int) == 42)
   ·skip
    cases b3:((n:Int) == 47)
    ·skip
     cases b4:((n:Int) == 94)
     ·skip
      cases b5:((n:Int) == 40)
      ·skip
       cases b6:((n:Int) == 41)
       ·skip
        rw[b0,b1,b2,b3,b4,b5,b6]at H;go_enter Tryz.func127,Tryz.ntmps127;go_wp2_with fail;go_ret;rw[H.out];exact⟨rfl,rfl⟩
       ·skip
        rw[b0,b1,b2,b3,b4,b5,b6]at H;go_enter Tryz.func127,Tryz.ntmps127;go_wp2_with fail;go_ret;rw[H.out];exact⟨rfl,rfl⟩
      ·skip
       rw[b0,b1,b2,b3,b4,b5]at H;go_enter Tryz.func127,Tryz.ntmps127;go_wp2_with fail;go_ret;rw[H.out];exact⟨rfl,rfl⟩
     ·skip
      rw[b0,b1,b2,b3,b4]at H;go_enter Tryz.func127,Tryz.ntmps127;go_wp2_with fail;go_ret;rw[H.out];exact⟨rfl,rfl⟩
    ·skip
     rw[b0,b1,b2,b3]at H;go_enter Tryz.func127,Tryz.ntmps127;go_wp2_with fail;go_ret;rw[H.out];exact⟨rfl,rfl⟩
   ·skip
    rw[b0,b1,b2]at H;go_enter Tryz.func127,Tryz.ntmps127;go_wp2_with fail;go_ret;rw[H.out];exact⟨rfl,rfl⟩
  ·skip
   rw[b0,b1]at H;go_enter Tryz.func127,Tryz.ntmps127;go_wp2_with fail;go_ret;rw[H.out];exact⟨rfl,rfl⟩
 ·skip
  rw[b0]at H;go_enter Tryz.func127,Tryz.ntmps127;go_wp2_with fail;go_ret;rw[H.out];exact⟨rfl,rfl⟩
theorem Cc(w:World)(neg:Bool)(v:Value)(xs:List Nat)(h:Arr w v xs)(hn:xs.length<=1073741824):
  Calls Tryz.prog 212 #[.bool neg,v] w fun e w'=>∃v',e= .returned v'/\AI w.heap.size w' v' (sgn neg (val xs))/\Ext w w':=by
 have HT:=hid (fun W hx=>Bq W v xs (h.ext hx) hn);have fM:=hid (LU (val xs));have lc:=hid (Kg (val xs));clear h;cases neg
 ·go_enter Tryz.func212,Tryz.ntmps212;go_wp2_with fail;refine(HT.out _ ((Ext.refl w).alloc _)).mono ?_
  rintro e w' ⟨v',rfl,ho,hx⟩;have HO:=hid ho;obtain⟨A,c,hv,_⟩:=ho.2;rw[List.length_map]at hv;subst hv;clear ho;have bF:=(Blk.new w 24 #[.bool false,.slice none 0 0]).ext hx;have hc0:w'.cell? ⟨w.heap.size,0,none⟩=some (.bool false):=bF.cell 0;have hc1:w'.cell? ⟨w.heap.size,1,none⟩=some (.slice none 0 0):=bF.cell 1;have hf0:=bF.frozen 0;have eh:=bF.frozen 1;have hz:=bF.lt;have HX:=hid hx;have HB:=hid bF;clear hx bF;go_wp2_with fail;obtain⟨aj,ac⟩:=BR HB.out (.bool false) (.slice A (Ac (val xs)).length c);refine bodyPost_ret (v:= .agg #[.bool false,.slice A (Ac (val xs)).length c]) (by simp[results,Tryz.results212,go_sem,aj,ac]) rfl ?_
  exact⟨_,rfl,AI.laid HB.out HO.out (by simp) lc.out (((Ext.refl w).alloc _).trans HX.out) (Nat.le_refl _)⟩
 ·go_enter Tryz.func212,Tryz.ntmps212;go_wp2_with fail;refine(HT.out _ ((Ext.refl w).alloc _)).mono ?_
  rintro e w' ⟨v',rfl,ho,hx⟩;have HO:=hid ho;obtain⟨A,c,hv,_⟩:=ho.2;rw[List.length_map]at hv;subst hv;clear ho;have bF:=(Blk.new w 24 #[.bool false,.slice none 0 0]).ext hx;have hc0:w'.cell? ⟨w.heap.size,0,none⟩=some (.bool false):=bF.cell 0;have hc1:w'.cell? ⟨w.heap.size,1,none⟩=some (.slice none 0 0):=bF.cell 1;have hf0:=bF.frozen 0;have eh:=bF.frozen 1;have hz:=bF.lt;have HX:=hid hx;have HB:=hid bF;clear hx bF;go_wp2_with fail;obtain⟨aj,ac⟩:=BR HB.out (.bool (decide (0<(Ac (val xs)).length))) (.slice A (Ac (val xs)).length c);refine bodyPost_ret (v:= .agg #[.bool (decide (0<(Ac (val xs)).length)),.slice A (Ac (val xs)).length c]) (by simp[results,Tryz.results212,go_sem,aj,ac]) rfl ?_
  exact⟨_,rfl,AI.laid HB.out HO.out (by simp) fM.out (((Ext.refl w).alloc _).trans HX.out) (Nat.le_refl _)⟩
theorem Tk(w:World)(z:Int)(hz:z<0)(fC: -9223372036854775808<=z):
  Calls Tryz.prog 215 #[.int .i64 z] w fun e w'=>∃v',e= .returned v'/\AI w.heap.size w' v' z/\Ext w w':=by
 obtain⟨n,hn⟩:∃n:Nat,z= -((n:Int)+1):=⟨(-(z+1)).toNat,by omega⟩;subst hn;have uQ:n+1<18446744073709551616:=by omega
 have HT:=hid (fun W=>F8 W (n+1) uQ);have fM:=hid (show true=decide (sgn true (n+1)<0) by rw[IG];simp);have eY:=hid (show sgn true (n+1)= -((n:Int)+1) by unfold sgn;simp);have yV:(n:Int)<=9223372036854775807:=by omega
 have e1: -((n:Int)+1)+1= -(n:Int):=by omega
 clear uQ;go_enter Tryz.func215,Tryz.ntmps215;go_wp2_with fail;have hx0:=(Ext.refl w).alloc (.cells #[.bool false,.slice none 0 0] 24);refine(HT.out _).mono ?_
 rintro e w1 ⟨v1,rfl,ho,hx⟩;have HO:=hid ho;obtain⟨A1,c1,fo,_⟩:=ho.2;rw[List.length_map]at fo;subst fo;clear ho;have bF:=(Blk.new w 24 #[.bool false,.slice none 0 0]).ext hx;have hc0:w1.cell? ⟨w.heap.size,0,none⟩=some (.bool false):=bF.cell 0;have hc1:w1.cell? ⟨w.heap.size,1,none⟩=some (.slice none 0 0):=bF.cell 1;have hf0:=bF.frozen 0;have eh:=bF.frozen 1;have ba:=bF.lt;have HX:=hid (hx0.trans hx);have HB:=hid bF;clear hx bF hx0;go_wp2_with fail;obtain⟨aj,ac⟩:=BR HB.out (.bool true) (.slice A1 (Ac (n+1)).length c1);refine bodyPost_ret (v:= .agg #[.bool true,.slice A1 (Ac (n+1)).length c1]) (by simp[results,Tryz.results215,go_sem,aj,ac]) rfl ?_
 have dz:=AI.laid HB.out HO.out (by simp) fM.out HX.out (Nat.le_refl _);rw[eY.out]at dz;exact⟨_,rfl,dz⟩
theorem Tj(w:World)(n:Nat)(hn:n<9223372036854775808):
  Calls Tryz.prog 215 #[.int .i64 (n:Int)] w fun e w'=>∃v',e= .returned v'/\AI w.heap.size w' v' (n:Int)/\Ext w w':=by
 have HT:=hid (fun W=>F8 W n (by omega));have fM:=hid (show false=decide (sgn false n<0) by rw[IG];simp);have eY:=hid (show sgn false n=(n:Int) by unfold sgn;simp);have yV:(n:Int)<=9223372036854775807:=by omega
 clear hn;go_enter Tryz.func215,Tryz.ntmps215;go_wp2_with fail;have hx0:=(Ext.refl w).alloc (.cells #[.bool false,.slice none 0 0] 24);refine(HT.out _).mono ?_
 rintro e w1 ⟨v1,rfl,ho,hx⟩;have HO:=hid ho;obtain⟨A1,c1,fo,_⟩:=ho.2;rw[List.length_map]at fo;subst fo;clear ho;have bF:=(Blk.new w 24 #[.bool false,.slice none 0 0]).ext hx;have hc0:w1.cell? ⟨w.heap.size,0,none⟩=some (.bool false):=bF.cell 0;have hc1:w1.cell? ⟨w.heap.size,1,none⟩=some (.slice none 0 0):=bF.cell 1;have hf0:=bF.frozen 0;have eh:=bF.frozen 1;have ba:=bF.lt;have HX:=hid (hx0.trans hx);have HB:=hid bF;clear hx bF hx0;go_wp2_with fail;obtain⟨aj,ac⟩:=BR HB.out (.bool false) (.slice A1 (Ac n).length c1);refine bodyPost_ret (v:= .agg #[.bool false,.slice A1 (Ac n).length c1]) (by simp[results,Tryz.results215,go_sem,aj,ac]) rfl ?_
 have dz:=AI.laid HB.out HO.out (by simp) fM.out HX.out (Nat.le_refl _);rw[eY.out]at dz;exact⟨_,rfl,dz⟩
@[irreducible] def was (w:World) (g o:Nat):Value:=(w.cell? ⟨g,o,none⟩).getD undef
theorem Ae{w:World}{g o:Nat}{u:Value}(h:w.cell? ⟨g,o,none⟩=some u):w.cell? ⟨g,o,none⟩=some (was w g o):=by
 unfold was;rw[h];rfl
theorem Ext.keepf{w w':World}{b o:Nat}{u:Value}(hx:Ext w w')(h:w.cell? ⟨b,o,none⟩=some u)(hf:w.frozen? ⟨b,o,none⟩=false):w'.frozen? ⟨b,o,none⟩=false:=(hx.frozen (World.block_lt_of_cell? w _ h)).trans hf
theorem Al{w:World}{g i b o:Nat}{u v:Value}(h:w.cell? ⟨b,o,none⟩=some v)(hne:b≠g):(w.setCell ⟨g,i,none⟩ u).cell? ⟨b,o,none⟩=some v:=
 (World.cell?_setCell_other w _ _ u (fun e=>hne (by injection e with e1 _ _;exact e1.symm))).trans h
theorem AB{w:World}{g i b o:Nat}{u v:Value}(h:w.cell? ⟨b,o,none⟩=some v):∃v',(w.setCell ⟨g,i,none⟩ u).cell? ⟨b,o,none⟩=some v':=by
 obtain⟨v',hv⟩:=cell?_setCell_some (w:=w) (p:=⟨g,i,none⟩) (x:=u) (q:=⟨b,o,none⟩) (v:=v) h;exact⟨v',hv⟩
theorem AR{w:World}{g i b o:Nat}{u:Value}(hf:w.frozen? ⟨b,o,none⟩=false):(w.setCell ⟨g,i,none⟩ u).frozen? ⟨b,o,none⟩=false:=by
 rw[World.frozen?_setCell];exact hf
theorem D4{w w1 w2:World}{g b0 o0 b1 o1 b2 o2 b3 o3:Nat}{u0 u1 u2 u3:Value}(h:Ext w w1/\w1.cell? ⟨b0,o0,none⟩=some u0/\w1.cell? ⟨b1,o1,none⟩=some u1/\w1.cell? ⟨b2,o2,none⟩=some u2/\w1.cell? ⟨b3,o3,none⟩=some u3/\w1.cell? ⟨g,0,none⟩=some (was w1 g 0)/\w1.cell? ⟨g,1,none⟩=some (was w1 g 1)/\w1.frozen? ⟨g,0,none⟩=false/\w1.frozen? ⟨g,1,none⟩=false)(hx:Ext w1 w2):Ext w w2/\w2.cell? ⟨b0,o0,none⟩=some u0/\w2.cell? ⟨b1,o1,none⟩=some u1/\w2.cell? ⟨b2,o2,none⟩=some u2/\w2.cell? ⟨b3,o3,none⟩=some u3/\w2.cell? ⟨g,0,none⟩=some (was w2 g 0)/\w2.cell? ⟨g,1,none⟩=some (was w2 g 1)/\w2.frozen? ⟨g,0,none⟩=false/\w2.frozen? ⟨g,1,none⟩=false:=
 ⟨h.1.trans hx,hx.keep h.2.1,hx.keep h.2.2.1,hx.keep h.2.2.2.1,hx.keep h.2.2.2.2.1,Ae (hx.keep h.2.2.2.2.2.1),Ae (hx.keep h.2.2.2.2.2.2.1),hx.keepf h.2.2.2.2.2.1 h.2.2.2.2.2.2.2.1,hx.keepf h.2.2.2.2.2.2.1 h.2.2.2.2.2.2.2.2⟩
theorem Ck{w w1:World}{g b0 o0 b1 o1 b2 o2 b3 o3:Nat}{u0 u1 u2 u3:Value}{x0 x1:Value}(h:Ext w w1/\w1.cell? ⟨b0,o0,none⟩=some u0/\w1.cell? ⟨b1,o1,none⟩=some u1/\w1.cell? ⟨b2,o2,none⟩=some u2/\w1.cell? ⟨b3,o3,none⟩=some u3/\w1.cell? ⟨g,0,none⟩=some (was w1 g 0)/\w1.cell? ⟨g,1,none⟩=some (was w1 g 1)/\w1.frozen? ⟨g,0,none⟩=false/\w1.frozen? ⟨g,1,none⟩=false)(hg:w.heap.size<=g)(n0:b0≠g)(n1:b1≠g)(n2:b2≠g)(n3:b3≠g):Ext w ((w1.setCell ⟨g,0,none⟩ x0).setCell ⟨g,1,none⟩ x1)/\((w1.setCell ⟨g,0,none⟩ x0).setCell ⟨g,1,none⟩ x1).cell? ⟨b0,o0,none⟩=some u0/\((w1.setCell ⟨g,0,none⟩ x0).setCell ⟨g,1,none⟩ x1).cell? ⟨b1,o1,none⟩=some u1/\((w1.setCell ⟨g,0,none⟩ x0).setCell ⟨g,1,none⟩ x1).cell? ⟨b2,o2,none⟩=some u2/\((w1.setCell ⟨g,0,none⟩ x0).setCell ⟨g,1,none⟩ x1).cell? ⟨b3,o3,none⟩=some u3/\((w1.setCell ⟨g,0,none⟩ x0).setCell ⟨g,1,none⟩ x1).cell? ⟨g,0,none⟩=some (was ((w1.setCell ⟨g,0,none⟩ x0).setCell ⟨g,1,none⟩ x1) g 0)/\((w1.setCell ⟨g,0,none⟩ x0).setCell ⟨g,1,none⟩ x1).cell? ⟨g,1,none⟩=some (was ((w1.setCell ⟨g,0,none⟩ x0).setCell ⟨g,1,none⟩ x1) g 1)/\((w1.setCell ⟨g,0,none⟩ x0).setCell ⟨g,1,none⟩ x1).frozen? ⟨g,0,none⟩=false/\((w1.setCell ⟨g,0,none⟩ x0).setCell ⟨g,1,none⟩ x1).frozen? ⟨g,1,none⟩=false:=by
 obtain⟨_,k0⟩:=AB (g:=g) (i:=0) (u:=x0) h.2.2.2.2.2.1;obtain⟨_,k0⟩:=AB (g:=g) (i:=1) (u:=x1) k0;obtain⟨_,k1⟩:=AB (g:=g) (i:=0) (u:=x0) h.2.2.2.2.2.2.1;obtain⟨_,k1⟩:=AB (g:=g) (i:=1) (u:=x1) k1;exact⟨((h.1.setCell hg _).setCell hg _),(Al (Al h.2.1 n0) n0),(Al (Al h.2.2.1 n1) n1),(Al (Al h.2.2.2.1 n2) n2),(Al (Al h.2.2.2.2.1 n3) n3),Ae k0,Ae k1,(AR (AR h.2.2.2.2.2.2.2.1)),(AR (AR h.2.2.2.2.2.2.2.2))⟩
theorem BX{w w1 w2:World}{g b0 o0 b1 o1 b2 o2:Nat}{u0 u1 u2:Value}(h:Ext w w1/\w1.cell? ⟨b0,o0,none⟩=some u0/\w1.cell? ⟨b1,o1,none⟩=some u1/\w1.cell? ⟨b2,o2,none⟩=some u2/\w1.cell? ⟨g,0,none⟩=some (was w1 g 0)/\w1.cell? ⟨g,1,none⟩=some (was w1 g 1)/\w1.cell? ⟨g,2,none⟩=some (was w1 g 2)/\w1.frozen? ⟨g,0,none⟩=false/\w1.frozen? ⟨g,1,none⟩=false/\w1.frozen? ⟨g,2,none⟩=false)(hx:Ext w1 w2):Ext w w2/\w2.cell? ⟨b0,o0,none⟩=some u0/\w2.cell? ⟨b1,o1,none⟩=some u1/\w2.cell? ⟨b2,o2,none⟩=some u2/\w2.cell? ⟨g,0,none⟩=some (was w2 g 0)/\w2.cell? ⟨g,1,none⟩=some (was w2 g 1)/\w2.cell? ⟨g,2,none⟩=some (was w2 g 2)/\w2.frozen? ⟨g,0,none⟩=false/\w2.frozen? ⟨g,1,none⟩=false/\w2.frozen? ⟨g,2,none⟩=false:=
 ⟨h.1.trans hx,hx.keep h.2.1,hx.keep h.2.2.1,hx.keep h.2.2.2.1,Ae (hx.keep h.2.2.2.2.1),Ae (hx.keep h.2.2.2.2.2.1),Ae (hx.keep h.2.2.2.2.2.2.1),hx.keepf h.2.2.2.2.1 h.2.2.2.2.2.2.2.1,hx.keepf h.2.2.2.2.2.1 h.2.2.2.2.2.2.2.2.1,hx.keepf h.2.2.2.2.2.2.1 h.2.2.2.2.2.2.2.2.2⟩
theorem AZ{w w1:World}{g b0 o0 b1 o1 b2 o2:Nat}{u0 u1 u2:Value}{x0 x1 x2:Value}(h:Ext w w1/\w1.cell? ⟨b0,o0,none⟩=some u0/\w1.cell? ⟨b1,o1,none⟩=some u1/\w1.cell? ⟨b2,o2,none⟩=some u2/\w1.cell? ⟨g,0,none⟩=some (was w1 g 0)/\w1.cell? ⟨g,1,none⟩=some (was w1 g 1)/\w1.cell? ⟨g,2,none⟩=some (was w1 g 2)/\w1.frozen? ⟨g,0,none⟩=false/\w1.frozen? ⟨g,1,none⟩=false/\w1.frozen? ⟨g,2,none⟩=false)(hg:w.heap.size<=g)(n0:b0≠g)(n1:b1≠g)(n2:b2≠g):Ext w (((w1.setCell ⟨g,0,none⟩ x0).setCell ⟨g,1,none⟩ x1).setCell ⟨g,2,none⟩ x2)/\(((w1.setCell ⟨g,0,none⟩ x0).setCell ⟨g,1,none⟩ x1).setCell ⟨g,2,none⟩ x2).cell? ⟨b0,o0,none⟩=some u0/\(((w1.setCell ⟨g,0,none⟩ x0).setCell ⟨g,1,none⟩ x1).setCell ⟨g,2,none⟩ x2).cell? ⟨b1,o1,none⟩=some u1/\(((w1.setCell ⟨g,0,none⟩ x0).setCell ⟨g,1,none⟩ x1).setCell ⟨g,2,none⟩ x2).cell? ⟨b2,o2,none⟩=some u2/\(((w1.setCell ⟨g,0,none⟩ x0).setCell ⟨g,1,none⟩ x1).setCell ⟨g,2,none⟩ x2).cell? ⟨g,0,none⟩=some (was (((w1.setCell ⟨g,0,none⟩ x0).setCell ⟨g,1,none⟩ x1).setCell ⟨g,2,none⟩ x2) g 0)/\(((w1.setCell ⟨g,0,none⟩ x0).setCell ⟨g,1,none⟩ x1).setCell ⟨g,2,none⟩ x2).cell? ⟨g,1,none⟩=some (was (((w1.setCell ⟨g,0,none⟩ x0).setCell ⟨g,1,none⟩ x1).setCell ⟨g,2,none⟩ x2) g 1)/\(((w1.setCell ⟨g,0,none⟩ x0).setCell ⟨g,1,none⟩ x1).setCell ⟨g,2,none⟩ x2).cell? ⟨g,2,none⟩=some (was (((w1.setCell ⟨g,0,none⟩ x0).setCell ⟨g,1,none⟩ x1).setCell ⟨g,2,none⟩ x2) g 2)/\(((w1.setCell ⟨g,0,none⟩ x0).setCell ⟨g,1,none⟩ x1).setCell ⟨g,2,none⟩ x2).frozen? ⟨g,0,none⟩=false/\(((w1.setCell ⟨g,0,none⟩ x0).setCell ⟨g,1,none⟩ x1).setCell ⟨g,2,none⟩ x2).frozen? ⟨g,1,none⟩=false/\(((w1.setCell ⟨g,0,none⟩ x0).setCell ⟨g,1,none⟩ x1).setCell ⟨g,2,none⟩ x2).frozen? ⟨g,2,none⟩=false:=by
 obtain⟨_,k0⟩:=AB (g:=g) (i:=0) (u:=x0) h.2.2.2.2.1;obtain⟨_,k0⟩:=AB (g:=g) (i:=1) (u:=x1) k0;obtain⟨_,k0⟩:=AB (g:=g) (i:=2) (u:=x2) k0;obtain⟨_,k1⟩:=AB (g:=g) (i:=0) (u:=x0) h.2.2.2.2.2.1;obtain⟨_,k1⟩:=AB (g:=g) (i:=1) (u:=x1) k1;obtain⟨_,k1⟩:=AB (g:=g) (i:=2) (u:=x2) k1;obtain⟨_,k2⟩:=AB (g:=g) (i:=0) (u:=x0) h.2.2.2.2.2.2.1;obtain⟨_,k2⟩:=AB (g:=g) (i:=1) (u:=x1) k2;obtain⟨_,k2⟩:=AB (g:=g) (i:=2) (u:=x2) k2;exact⟨(((h.1.setCell hg _).setCell hg _).setCell hg _),(Al (Al (Al h.2.1 n0) n0) n0),(Al (Al (Al h.2.2.1 n1) n1) n1),(Al (Al (Al h.2.2.2.1 n2) n2) n2),Ae k0,Ae k1,Ae k2,(AR (AR (AR h.2.2.2.2.2.2.2.1))),(AR (AR (AR h.2.2.2.2.2.2.2.2.1))),(AR (AR (AR h.2.2.2.2.2.2.2.2.2)))⟩
theorem GH{w w1 w2:World}{g b0 o0 b1 o1 b2 o2 b3 o3 b4 o4:Nat}{u0 u1 u2 u3 u4:Value}(h:Ext w w1/\w1.cell? ⟨b0,o0,none⟩=some u0/\w1.cell? ⟨b1,o1,none⟩=some u1/\w1.cell? ⟨b2,o2,none⟩=some u2/\w1.cell? ⟨b3,o3,none⟩=some u3/\w1.cell? ⟨b4,o4,none⟩=some u4/\w1.cell? ⟨g,0,none⟩=some (was w1 g 0)/\w1.cell? ⟨g,1,none⟩=some (was w1 g 1)/\w1.cell? ⟨g,2,none⟩=some (was w1 g 2)/\w1.frozen? ⟨g,0,none⟩=false/\w1.frozen? ⟨g,1,none⟩=false/\w1.frozen? ⟨g,2,none⟩=false)(hx:Ext w1 w2):Ext w w2/\w2.cell? ⟨b0,o0,none⟩=some u0/\w2.cell? ⟨b1,o1,none⟩=some u1/\w2.cell? ⟨b2,o2,none⟩=some u2/\w2.cell? ⟨b3,o3,none⟩=some u3/\w2.cell? ⟨b4,o4,none⟩=some u4/\w2.cell? ⟨g,0,none⟩=some (was w2 g 0)/\w2.cell? ⟨g,1,none⟩=some (was w2 g 1)/\w2.cell? ⟨g,2,none⟩=some (was w2 g 2)/\w2.frozen? ⟨g,0,none⟩=false/\w2.frozen? ⟨g,1,none⟩=false/\w2.frozen? ⟨g,2,none⟩=false:=
 ⟨h.1.trans hx,hx.keep h.2.1,hx.keep h.2.2.1,hx.keep h.2.2.2.1,hx.keep h.2.2.2.2.1,hx.keep h.2.2.2.2.2.1,Ae (hx.keep h.2.2.2.2.2.2.1),Ae (hx.keep h.2.2.2.2.2.2.2.1),Ae (hx.keep h.2.2.2.2.2.2.2.2.1),hx.keepf h.2.2.2.2.2.2.1 h.2.2.2.2.2.2.2.2.2.1,hx.keepf h.2.2.2.2.2.2.2.1 h.2.2.2.2.2.2.2.2.2.2.1,hx.keepf h.2.2.2.2.2.2.2.2.1 h.2.2.2.2.2.2.2.2.2.2.2⟩
theorem DM{w w1:World}{g b0 o0 b1 o1 b2 o2 b3 o3 b4 o4:Nat}{u0 u1 u2 u3 u4:Value}{x0 x1 x2:Value}(h:Ext w w1/\w1.cell? ⟨b0,o0,none⟩=some u0/\w1.cell? ⟨b1,o1,none⟩=some u1/\w1.cell? ⟨b2,o2,none⟩=some u2/\w1.cell? ⟨b3,o3,none⟩=some u3/\w1.cell? ⟨b4,o4,none⟩=some u4/\w1.cell? ⟨g,0,none⟩=some (was w1 g 0)/\w1.cell? ⟨g,1,none⟩=some (was w1 g 1)/\w1.cell? ⟨g,2,none⟩=some (was w1 g 2)/\w1.frozen? ⟨g,0,none⟩=false/\w1.frozen? ⟨g,1,none⟩=false/\w1.frozen? ⟨g,2,none⟩=false)(hg:w.heap.size<=g)(n0:b0≠g)(n1:b1≠g)(n2:b2≠g)(n3:b3≠g)(n4:b4≠g):Ext w (((w1.setCell ⟨g,0,none⟩ x0).setCell ⟨g,1,none⟩ x1).setCell ⟨g,2,none⟩ x2)/\(((w1.setCell ⟨g,0,none⟩ x0).setCell ⟨g,1,none⟩ x1).setCell ⟨g,2,none⟩ x2).cell? ⟨b0,o0,none⟩=some u0/\(((w1.setCell ⟨g,0,none⟩ x0).setCell ⟨g,1,none⟩ x1).setCell ⟨g,2,none⟩ x2).cell? ⟨b1,o1,none⟩=some u1/\(((w1.setCell ⟨g,0,none⟩ x0).setCell ⟨g,1,none⟩ x1).setCell ⟨g,2,none⟩ x2).cell? ⟨b2,o2,none⟩=some u2/\(((w1.setCell ⟨g,0,none⟩ x0).setCell ⟨g,1,none⟩ x1).setCell ⟨g,2,none⟩ x2).cell? ⟨b3,o3,none⟩=some u3/\(((w1.setCell ⟨g,0,none⟩ x0).setCell ⟨g,1,none⟩ x1).setCell ⟨g,2,none⟩ x2).cell? ⟨b4,o4,none⟩=some u4/\(((w1.setCell ⟨g,0,none⟩ x0).setCell ⟨g,1,none⟩ x1).setCell ⟨g,2,none⟩ x2).cell? ⟨g,0,none⟩=some (was (((w1.setCell ⟨g,0,none⟩ x0).setCell ⟨g,1,none⟩ x1).setCell ⟨g,2,none⟩ x2) g 0)/\(((w1.setCell ⟨g,0,none⟩ x0).setCell ⟨g,1,none⟩ x1).setCell ⟨g,2,none⟩ x2).cell? ⟨g,1,none⟩=some (was (((w1.setCell ⟨g,0,none⟩ x0).setCell ⟨g,1,none⟩ x1).setCell ⟨g,2,none⟩ x2) g 1)/\(((w1.setCell ⟨g,0,none⟩ x0).setCell ⟨g,1,none⟩ x1).setCell ⟨g,2,none⟩ x2).cell? ⟨g,2,none⟩=some (was (((w1.setCell ⟨g,0,none⟩ x0).setCell ⟨g,1,none⟩ x1).setCell ⟨g,2,none⟩ x2) g 2)/\(((w1.setCell ⟨g,0,none⟩ x0).setCell ⟨g,1,none⟩ x1).setCell ⟨g,2,none⟩ x2).frozen? ⟨g,0,none⟩=false/\(((w1.setCell ⟨g,0,none⟩ x0).setCell ⟨g,1,none⟩ x1).setCell ⟨g,2,none⟩ x2).frozen? ⟨g,1,none⟩=false/\(((w1.setCell ⟨g,0,none⟩ x0).setCell ⟨g,1,none⟩ x1).setCell ⟨g,2,none⟩ x2).frozen? ⟨g,2,none⟩=false:=by
 obtain⟨_,k0⟩:=AB (g:=g) (i:=0) (u:=x0) h.2.2.2.2.2.2.1;obtain⟨_,k0⟩:=AB (g:=g) (i:=1) (u:=x1) k0;obtain⟨_,k0⟩:=AB (g:=g) (i:=2) (u:=x2) k0;obtain⟨_,k1⟩:=AB (g:=g) (i:=0) (u:=x0) h.2.2.2.2.2.2.2.1;obtain⟨_,k1⟩:=AB (g:=g) (i:=1) (u:=x1) k1;obtain⟨_,k1⟩:=AB (g:=g) (i:=2) (u:=x2) k1;obtain⟨_,k2⟩:=AB (g:=g) (i:=0) (u:=x0) h.2.2.2.2.2.2.2.2.1;obtain⟨_,k2⟩:=AB (g:=g) (i:=1) (u:=x1) k2;obtain⟨_,k2⟩:=AB (g:=g) (i:=2) (u:=x2) k2;exact⟨(((h.1.setCell hg _).setCell hg _).setCell hg _),(Al (Al (Al h.2.1 n0) n0) n0),(Al (Al (Al h.2.2.1 n1) n1) n1),(Al (Al (Al h.2.2.2.1 n2) n2) n2),(Al (Al (Al h.2.2.2.2.1 n3) n3) n3),(Al (Al (Al h.2.2.2.2.2.1 n4) n4) n4),Ae k0,Ae k1,Ae k2,(AR (AR (AR h.2.2.2.2.2.2.2.2.2.1))),(AR (AR (AR h.2.2.2.2.2.2.2.2.2.2.1))),(AR (AR (AR h.2.2.2.2.2.2.2.2.2.2.2)))⟩
theorem Da{w w1 w2:World}{g b0 o0 b1 o1 b2 o2 b3 o3 b4 o4 b5 o5:Nat}{u0 u1 u2 u3 u4 u5:Value}(h:Ext w w1/\w1.cell? ⟨b0,o0,none⟩=some u0/\w1.cell? ⟨b1,o1,none⟩=some u1/\w1.cell? ⟨b2,o2,none⟩=some u2/\w1.cell? ⟨b3,o3,none⟩=some u3/\w1.cell? ⟨b4,o4,none⟩=some u4/\w1.cell? ⟨b5,o5,none⟩=some u5/\w1.cell? ⟨g,0,none⟩=some (was w1 g 0)/\w1.cell? ⟨g,1,none⟩=some (was w1 g 1)/\w1.cell? ⟨g,2,none⟩=some (was w1 g 2)/\w1.frozen? ⟨g,0,none⟩=false/\w1.frozen? ⟨g,1,none⟩=false/\w1.frozen? ⟨g,2,none⟩=false)(hx:Ext w1 w2):Ext w w2/\w2.cell? ⟨b0,o0,none⟩=some u0/\w2.cell? ⟨b1,o1,none⟩=some u1/\w2.cell? ⟨b2,o2,none⟩=some u2/\w2.cell? ⟨b3,o3,none⟩=some u3/\w2.cell? ⟨b4,o4,none⟩=some u4/\w2.cell? ⟨b5,o5,none⟩=some u5/\w2.cell? ⟨g,0,none⟩=some (was w2 g 0)/\w2.cell? ⟨g,1,none⟩=some (was w2 g 1)/\w2.cell? ⟨g,2,none⟩=some (was w2 g 2)/\w2.frozen? ⟨g,0,none⟩=false/\w2.frozen? ⟨g,1,none⟩=false/\w2.frozen? ⟨g,2,none⟩=false:=
 ⟨h.1.trans hx,hx.keep h.2.1,hx.keep h.2.2.1,hx.keep h.2.2.2.1,hx.keep h.2.2.2.2.1,hx.keep h.2.2.2.2.2.1,hx.keep h.2.2.2.2.2.2.1,Ae (hx.keep h.2.2.2.2.2.2.2.1),Ae (hx.keep h.2.2.2.2.2.2.2.2.1),Ae (hx.keep h.2.2.2.2.2.2.2.2.2.1),hx.keepf h.2.2.2.2.2.2.2.1 h.2.2.2.2.2.2.2.2.2.2.1,hx.keepf h.2.2.2.2.2.2.2.2.1 h.2.2.2.2.2.2.2.2.2.2.2.1,hx.keepf h.2.2.2.2.2.2.2.2.2.1 h.2.2.2.2.2.2.2.2.2.2.2.2⟩
theorem BM{w w1:World}{g b0 o0 b1 o1 b2 o2 b3 o3 b4 o4 b5 o5:Nat}{u0 u1 u2 u3 u4 u5:Value}{x0 x1 x2:Value}(h:Ext w w1/\w1.cell? ⟨b0,o0,none⟩=some u0/\w1.cell? ⟨b1,o1,none⟩=some u1/\w1.cell? ⟨b2,o2,none⟩=some u2/\w1.cell? ⟨b3,o3,none⟩=some u3/\w1.cell? ⟨b4,o4,none⟩=some u4/\w1.cell? ⟨b5,o5,none⟩=some u5/\w1.cell? ⟨g,0,none⟩=some (was w1 g 0)/\w1.cell? ⟨g,1,none⟩=some (was w1 g 1)/\w1.cell? ⟨g,2,none⟩=some (was w1 g 2)/\w1.frozen? ⟨g,0,none⟩=false/\w1.frozen? ⟨g,1,none⟩=false/\w1.frozen? ⟨g,2,none⟩=false)(hg:w.heap.size<=g)(n0:b0≠g)(n1:b1≠g)(n2:b2≠g)(n3:b3≠g)(n4:b4≠g)(n5:b5≠g):Ext w (((w1.setCell ⟨g,0,none⟩ x0).setCell ⟨g,1,none⟩ x1).setCell ⟨g,2,none⟩ x2)/\(((w1.setCell ⟨g,0,none⟩ x0).setCell ⟨g,1,none⟩ x1).setCell ⟨g,2,none⟩ x2).cell? ⟨b0,o0,none⟩=some u0/\(((w1.setCell ⟨g,0,none⟩ x0).setCell ⟨g,1,none⟩ x1).setCell ⟨g,2,none⟩ x2).cell? ⟨b1,o1,none⟩=some u1/\(((w1.setCell ⟨g,0,none⟩ x0).setCell ⟨g,1,none⟩ x1).setCell ⟨g,2,none⟩ x2).cell? ⟨b2,o2,none⟩=some u2/\(((w1.setCell ⟨g,0,none⟩ x0).setCell ⟨g,1,none⟩ x1).setCell ⟨g,2,none⟩ x2).cell? ⟨b3,o3,none⟩=some u3/\(((w1.setCell ⟨g,0,none⟩ x0).setCell ⟨g,1,none⟩ x1).setCell ⟨g,2,none⟩ x2).cell? ⟨b4,o4,none⟩=some u4/\(((w1.setCell ⟨g,0,none⟩ x0).setCell ⟨g,1,none⟩ x1).setCell ⟨g,2,none⟩ x2).cell? ⟨b5,o5,none⟩=some u5/\(((w1.setCell ⟨g,0,none⟩ x0).setCell ⟨g,1,none⟩ x1).setCell ⟨g,2,none⟩ x2).cell? ⟨g,0,none⟩=some (was (((w1.setCell ⟨g,0,none⟩ x0).setCell ⟨g,1,none⟩ x1).setCell ⟨g,2,none⟩ x2) g 0)/\(((w1.setCell ⟨g,0,none⟩ x0).setCell ⟨g,1,none⟩ x1).setCell ⟨g,2,none⟩ x2).cell? ⟨g,1,none⟩=some (was (((w1.setCell ⟨g,0,none⟩ x0).setCell ⟨g,1,none⟩ x1).setCell ⟨g,2,none⟩ x2) g 1)/\(((w1.setCell ⟨g,0,none⟩ x0).setCell ⟨g,1,none⟩ x1).setCell ⟨g,2,none⟩ x2).cell? ⟨g,2,none⟩=some (was (((w1.setCell ⟨g,0,none⟩ x0).setCell ⟨g,1,none⟩ x1).setCell ⟨g,2,none⟩ x2) g 2)/\(((w1.setCell ⟨g,0,none⟩ x0).setCell ⟨g,1,none⟩ x1).setCell ⟨g,2,none⟩ x2).frozen? ⟨g,0,none⟩=false/\(((w1.setCell ⟨g,0,none⟩ x0).setCell ⟨g,1,none⟩ x1).setCell ⟨g,2,none⟩ x2).frozen? ⟨g,1,none⟩=false/\(((w1.setCell ⟨g,0,none⟩ x0).setCell ⟨g,1,none⟩ x1).setCell ⟨g,2,none⟩ x2).frozen? ⟨g,2,none⟩=false:=by
 obtain⟨_,k0⟩:=AB (g:=g) (i:=0) (u:=x0) h.2.2.2.2.2.2.2.1;obtain⟨_,k0⟩:=AB (g:=g) (i:=1) (u:=x1) k0;obtain⟨_,k0⟩:=AB (g:=g) (i:=2) (u:=x2) k0;obtain⟨_,k1⟩:=AB (g:=g) (i:=0) (u:=x0) h.2.2.2.2.2.2.2.2.1;obtain⟨_,k1⟩:=AB (g:=g) (i:=1) (u:=x1) k1;obtain⟨_,k1⟩:=AB (g:=g) (i:=2) (u:=x2) k1;obtain⟨_,k2⟩:=AB (g:=g) (i:=0) (u:=x0) h.2.2.2.2.2.2.2.2.2.1;obtain⟨_,k2⟩:=AB (g:=g) (i:=1) (u:=x1) k2;obtain⟨_,k2⟩:=AB (g:=g) (i:=2) (u:=x2) k2;exact⟨(((h.1.setCell hg _).setCell hg _).setCell hg _),(Al (Al (Al h.2.1 n0) n0) n0),(Al (Al (Al h.2.2.1 n1) n1) n1),(Al (Al (Al h.2.2.2.1 n2) n2) n2),(Al (Al (Al h.2.2.2.2.1 n3) n3) n3),(Al (Al (Al h.2.2.2.2.2.1 n4) n4) n4),(Al (Al (Al h.2.2.2.2.2.2.1 n5) n5) n5),Ae k0,Ae k1,Ae k2,(AR (AR (AR h.2.2.2.2.2.2.2.2.2.2.1))),(AR (AR (AR h.2.2.2.2.2.2.2.2.2.2.2.1))),(AR (AR (AR h.2.2.2.2.2.2.2.2.2.2.2.2)))⟩
theorem AK{w:World}{p q:Addr}{v u:Value}(h:(w.setCell p v).cell? q=some u):∃u',w.cell? q=some u':=by
 by_cases e:p=q
 ·subst e;cases hc:w.cell? p with
  |some u'=>exact⟨u',rfl⟩
  |none=>
   exfalso
   simp only[World.setCell,World.cell?,Array.getElem?_modify,if_true]at h;unfold World.cell? at hc;cases hb:w.heap[p.block]? with
   |none=>rw[hb]at h;simp at h
   |some x=>
    rw[hb]at h hc;cases x with
    |cells c t f=>
     simp at h hc;split at h
     ·simp_all
     ·obtain⟨hs,h⟩:=h;have fE:=hc hs;rw[Array.getElem?_eq_none (by simpa using fE)]at h;cases h
    |_=>simp at h
 ·rw[World.cell?_setCell_other _ _ _ _ e]at h;exact⟨u,h⟩
theorem Gc{w:World}{g:Nat}{a b u u':Value}(h0:((w.setCell ⟨g,0,none⟩ a).setCell ⟨g,1,none⟩ b).cell? ⟨g,0,none⟩=some u)(h1:((w.setCell ⟨g,0,none⟩ a).setCell ⟨g,1,none⟩ b).cell? ⟨g,1,none⟩=some u'):
  (w.setCell ⟨g,0,none⟩ a).cell? ⟨g,0,none⟩=some a/\((w.setCell ⟨g,0,none⟩ a).setCell ⟨g,1,none⟩ b).cell? ⟨g,1,none⟩=some b:=by
 obtain⟨_,k0⟩:=AK h0;obtain⟨_,k0⟩:=AK k0;obtain⟨_,k1⟩:=AK h1;exact⟨World.cell?_setCell_same _ _ _ k0,World.cell?_setCell_same _ _ _ k1⟩
theorem AI.put{w w1 w':World}{g:Nat}{bi:Bool}{m:Value}{z:Int}(hi:AI w1.heap.size w' (.agg #[.bool bi,m]) z)(hg:g<w1.heap.size)(hw:w.heap.size<=w1.heap.size):
  AI w.heap.size ((w'.setCell ⟨g,0,none⟩ (.bool bi)).setCell ⟨g,1,none⟩ m) (.agg #[.bool bi,m]) z:=((hi.far hg _).far hg _).mono hw
end Big
end Go.Proofs.YtkoaogkknnelaaaGreatDoor
