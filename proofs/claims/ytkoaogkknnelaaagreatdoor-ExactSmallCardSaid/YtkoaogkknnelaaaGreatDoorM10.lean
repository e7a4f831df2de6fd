import Derived.Test.YtkoaogkknnelaaaGreatDoorM9
import Derived.Deep.RegionLaw
set_option linter.unusedVariables false
set_option linter.unusedSimpArgs false
namespace Go.Proofs.YtkoaogkknnelaaaGreatDoor
namespace Big
open Lib (hid)
noncomputable def Fa(R:Nat->Bool)(T:List X2)(n:Nd):List X2:=T++[if R T.length then Bf n (T.getD n.a.toNat X2.O) (T.getD n.b.toNat X2.O) else X2.O]
noncomputable def CK(R:Nat->Bool)(ns:List Nd):List X2:=ns.foldl (Fa R) []
theorem O4(R:Nat->Bool)(ns:List Nd)(x:Nd):CK R (ns++[x])=Fa R (CK R ns) x:=by unfold CK;rw[List.foldl_append];rfl
theorem Ds(R:Nat->Bool)(ns:List Nd):(CK R ns).length=ns.length:=by
 have key:∀(l:List Nd) (D:List X2),(l.foldl (Fa R) D).length=D.length+l.length:=by
  intro l
  induction l with
  |nil=>intro D;rfl
  |cons x l ih=>
   intro D;rw[List.foldl_cons,ih];simp only[Fa,List.length_append,List.length_cons,List.length_nil];omega
 have:=key ns [];rw[List.length_nil,Nat.zero_add]at this;exact this
theorem Hc(R:Nat->Bool)(ns:List Nd){i:Nat}(hi:i<ns.length):CK R (ns.take (i+1))=Fa R (CK R (ns.take i)) ns[i]:=by
 rw[List.take_succ_eq_append_getElem hi,O4]
theorem QT(R:Nat->Bool)(ns ms:List Nd):CK R ns <+: CK R (ns++ms):=by
 have key:∀(l:List Nd) (D:List X2),D <+: l.foldl (Fa R) D:=by
  intro l
  induction l with
  |nil=>intro D;exact List.prefix_refl _
  |cons x l ih=>intro D;exact(List.prefix_append D _).trans (ih _)
 unfold CK;rw[List.foldl_append];exact key ms _
theorem Kf(R:Nat->Bool){ns:List Nd}{i:Nat}(X7:i<=ns.length):∀j,j<i->(CK R (ns.take i)).getD j X2.O=(CK R ns).getD j X2.O:=by
 intro j hj;have h1:=QT R (ns.take i) (ns.drop i);rw[List.take_append_drop]at h1;obtain⟨t,ht⟩:=h1;rw[<-ht,ET _ _ (by rw[Ds,List.length_take];omega)]
theorem SZ(R:Nat->Bool)(ns:List Nd):∀x∈CK R ns,x.Ok:=by
 have key:∀(l:List Nd) (D:List X2),(∀x∈D,x.Ok)->∀x∈l.foldl (Fa R) D,x.Ok:=by
  intro l
  induction l with
  |nil=>intro D h;exact h
  |cons n l ih=>
   intro D h;rw[List.foldl_cons];refine ih _ (fun x hx=> ?_);unfold Fa at hx;rcases List.mem_append.1 hx with hx|hx
   ·exact h x hx
   ·rw[List.mem_singleton]at hx;subst hx;have hg:∀j,(D.getD j X2.O).Ok:=fun j=>by
     rw[List.getD_eq_getElem?_getD];cases hj:D[j]? with
     |none=>exact X2.O_ok
     |some y=>exact h y (List.mem_of_getElem? hj)
    split
    ·exact Fz n (hg _) (hg _)
    ·exact X2.O_ok
 exact key ns [] (fun x hx=>by cases hx)
theorem O5(R:Nat->Bool){ns:List Nd}(hs:AH ns)(hR:∀i a,R i=true->a∈CH ns i->R a=true):∀i,i<ns.length->R i=true->(CK R ns).getD i X2.O=(CA ns).getD i X2.O:=by
 have key:∀m i,i<m->i<ns.length->R i=true->(CK R ns).getD i X2.O=(CA ns).getD i X2.O:=by
  intro m
  induction m with
  |zero=>intro i hi;omega
  |succ m ih=>
   intro i xj hi XO;have hx:ns[i]? =some ns[i]:=List.getElem?_eq_getElem hi
   rw[IF hs hx,<-Kf R (Nat.succ_le_of_lt hi) i (Nat.lt_succ_self i),Hc R ns hi];unfold Fa;have hl:(CK R (ns.take i)).length=i:=by rw[Ds,List.length_take];omega
   rw[JH _ _ hl.symm,hl,if_pos XO];have sr:∀a,a∈CH ns i->(CK R (ns.take i)).getD a X2.O=(CA ns).getD a X2.O:=fun a ha=>by
    have hai:=hs.args_lt ha;rw[Kf R (Nat.le_of_lt hi) a hai];exact ih a (by omega) (by omega) (hR i a XO ha)
   generalize hnx:ns[i]=x at *;rcases hs.2 i x hx with ⟨k,t,rfl,ho⟩|⟨k,n,j,rfl,ho,hj⟩|⟨k,j,q,rfl,hk,hj,hq⟩
   ·have:k<5:=by rcases ho with ⟨h,_⟩|⟨h,_⟩|⟨h,_⟩<;>omega
    exact Eu (by simp only;omega) _ _ _ _
   ·have h5:=ho.1;have ha:j∈CH ns i:=by
     unfold CH;rw[hx];simp only[BF];rw[if_neg (by omega),if_neg (by omega)];simp
    simp only[Int.toNat_natCast];rw[sr j ha];exact Gl (by simp only;omega) (by simp only;omega) _ _ _
   ·have ha:j∈CH ns i/\q∈CH ns i:=by
     unfold CH;rw[hx];simp only[BF];rw[if_neg (by omega),if_pos (by omega)];simp
    simp only[Int.toNat_natCast];rw[sr j ha.1,sr q ha.2]
 intro i;exact key (i+1) i (Nat.lt_succ_self i)
theorem O3{ns:List Nd}{i j:Nat}(hi:i<=ns.length)(hj:j<i):(CA (ns.take i)).getD j X2.O=(CA ns).getD j X2.O:=Ew hi j hj
open Go.RowKit
def di(x:Int):Value:= .int .i64 x
def UD(l:List Int):Prop:=∀x∈l,-9223372036854775808<=x/\x<=9223372036854775807
def Of(w:World)(v:Value)(l:List Int):Prop:=UD l/\Eb w v (l.map di)
structure KB (B g:Nat) (w w':World):Prop where
 os:w'.os=w.os
 tape:w'.tape=w.tape
 output:w'.output=w.output
 size:w.heap.size<=w'.heap.size
 block:∀k,k<B->k≠g->w'.heap[k]? =w.heap[k]?
section
variable {w w' w'':World} {B B' g:Nat} {v:Value} {l:List Int}
theorem KB.refl(B g:Nat)(w:World):KB B g w w:=⟨rfl,rfl,rfl,Nat.le_refl _,fun _ _ _=>rfl⟩
theorem KB.set{p:Addr}(hp:p.block=g)(u:Value):KB B g w (w.setCell p u):=
 ⟨rfl,rfl,rfl,by simp[World.setCell],fun k _ h2=>Below.heap_setCell w p u k (by rw[hp];exact h2)⟩
theorem Eb.kb{vs:List Value}(h:Eb w v vs)(hk:KB B g w w')(hv:∀b,v.ownBlock=some b->b<B/\b≠g):Eb w' v vs:=by
 obtain⟨A,c,rfl,h2,h3,h4⟩:=h;refine⟨A,c,rfl,h2,h3,fun hp=> ?_⟩;obtain⟨b,o,rfl,hlt,hc⟩:=h4 hp;obtain⟨h5,h6⟩:=hv b rfl;refine⟨b,o,rfl,Nat.lt_of_lt_of_le hlt hk.size,fun j u hj=> ?_⟩;have h7:=hc j u hj;rw[<-h7];exact World.cell?_of_block (a:=⟨b,o+j,none⟩) (hk.block b h5 h6)
theorem Of.kb(h:Of w v l)(hk:KB B g w w')(hv:∀b,v.ownBlock=some b->b<B/\b≠g):Of w' v l:=⟨h.1,h.2.kb hk hv⟩
end
structure Hu (B g:Nat) (w:World) (L:Value) (l:List Int) (a:Nat):Prop where
 blk:Blk w g 129 #[L,.int .i64 (a:Int)]
 arr:Of w L l
 off:0<l.length->∀b,L.ownBlock=some b->b<B/\b≠g
 lt:g<B
 pos:a<=l.length
 few:l.length<=1000000
theorem Of.nil_kb{w w':World}{v:Value}{l:List Int}(h:Of w v l)(h0:l.length=0)(_hs:w.heap.size<=w'.heap.size):Of w' v l:=by
 refine⟨h.1,?_⟩;obtain⟨A,c,rfl,h2,h3,_⟩:=h.2;exact⟨A,c,rfl,h2,h3,fun hp=>by rw[List.length_map]at hp;omega⟩
theorem Hu.kb{B g:Nat}{w w':World}{L:Value}{l:List Int}{a a':Nat}(h:Hu B g w L l a)(hk:KB B g w w')(hb:Blk w' g 129 #[L,.int .i64 (a':Int)])(ha:a'<=l.length):Hu B g w' L l a':=by
 refine⟨hb,?_,h.off,h.lt,ha,h.few⟩;rcases Nat.eq_zero_or_pos l.length with h0|h0
 ·exact h.arr.nil_kb h0 hk.size
 ·exact h.arr.kb hk (h.off h0)
theorem QP(v n:Int)(hn:1<=n):(if v.tmod n<0 then v.tmod n+n else v.tmod n)=v % n:=by
 have h:=Int.tmod_eq_emod (a:=v) (b:=n);have h1:=Int.emod_nonneg v (show n≠0 by omega);have h2:=Int.emod_lt_of_pos v (show 0<n by omega);rw[h];split<;>split<;>omega
theorem Lk(w:World)(v n:Int)(_h1: -9223372036854775808<=v)(_h2:v<=9223372036854775807)(hn:1<=n)(hn2:n<=4611686018427387904):
  Calls Tryz.prog 14 #[.int .i64 v,.int .i64 n] w fun e w'=>e= .returned (.int .i64 (v % n))/\w=w':=by
 have hT:=QP v n hn;have hne:(n == 0)=false:=by rw[beq_eq_false_iff_ne];omega
 obtain⟨r,hr⟩:∃r,v.tmod n=r:=⟨_,rfl⟩;rw[hr]at hT;have gM:=Int.emod_nonneg v (show n≠0 by omega);have mc:=Int.emod_lt_of_pos v (show 0<n by omega);by_cases h0:r<0
 ·rw[if_pos h0]at hT;have al: -n<=r:=by omega
  have HT:=hid hT;clear hT gM mc;go_enter Tryz.func14,Tryz.ntmps14;go_wp2_with fail;go_ret;exact⟨congrArg (fun z=>Ending.returned (.int .i64 z)) HT.out,rfl⟩
 ·rw[if_neg h0]at hT;have al:r<n:=by omega
  have HT:=hid hT;clear hT gM mc;go_enter Tryz.func14,Tryz.ntmps14;go_wp2_with fail;go_ret;exact⟨congrArg (fun z=>Ending.returned (.int .i64 z)) HT.out,rfl⟩
theorem Mu(w:World)(n:Nat)(hn:n<256):Calls Tryz.prog 196 #[.int .u8 (n:Int)] w fun e w'=>e= .returned (.bool (Df n))/\w=w':=by
 have e1:decide ((48:Int)<=(n:Int))=decide (48<=n):=by rw[decide_eq_decide];omega
 have e2:decide ((n:Int)<=57)=decide (n<=57):=by rw[decide_eq_decide];omega
 have H:Hid (Df n=(decide ((48:Int)<=(n:Int)) && decide ((n:Int)<=57))):=hid (by rw[e1,e2];rfl);clear e1 e2;cases b1:decide ((48:Int)<=(n:Int))<;>cases b2:decide ((n:Int)<=57)
 all_goals first|(exfalso;simp only[decide_eq_false_iff_not,decide_eq_true_eq]at b1 b2;omega)|skip
 all_goals
  rw[b1,b2]at H;go_enter Tryz.func196,Tryz.ntmps196;go_wp2_with fail;go_ret;rw[H.out];exact⟨rfl,rfl⟩
theorem F3(w:World)(n:Nat)(hn:n<256):Calls Tryz.prog 124 #[.int .u8 (n:Int)] w fun e w'=>e= .returned (.bool (Df n))/\w=w':=by
 have e1:decide ((48:Int)<=(n:Int))=decide (48<=n):=by rw[decide_eq_decide];omega
 have e2:decide ((n:Int)<=57)=decide (n<=57):=by rw[decide_eq_decide];omega
 have H:Hid (Df n=(decide ((48:Int)<=(n:Int)) && decide ((n:Int)<=57))):=hid (by rw[e1,e2];rfl);clear e1 e2;cases b1:decide ((48:Int)<=(n:Int))<;>cases b2:decide ((n:Int)<=57)
 all_goals first|(exfalso;simp only[decide_eq_false_iff_not,decide_eq_true_eq]at b1 b2;omega)|skip
 all_goals
  rw[b1,b2]at H;go_enter Tryz.func124,Tryz.ntmps124;go_wp2_with fail;go_ret;rw[H.out];exact⟨rfl,rfl⟩
theorem GI(w:World)(n:Nat)(hn:n<256):Calls Tryz.prog 150 #[.int .u8 (n:Int)] w fun e w'=>e= .returned (.bool (D2 n))/\w=w':=by
 have e1:decide ((97:Int)<=(n:Int))=decide (97<=n):=by rw[decide_eq_decide];omega
 have e2:decide ((n:Int)<=122)=decide (n<=122):=by rw[decide_eq_decide];omega
 have e3:decide ((65:Int)<=(n:Int))=decide (65<=n):=by rw[decide_eq_decide];omega
 have e4:decide ((n:Int)<=90)=decide (n<=90):=by rw[decide_eq_decide];omega
 have H:Hid (D2 n=((decide ((97:Int)<=(n:Int)) && decide ((n:Int)<=122)) || (decide ((65:Int)<=(n:Int)) && decide ((n:Int)<=90)))):=hid (by rw[e1,e2,e3,e4];rfl);clear e1 e2 e3 e4;cases b1:decide ((97:Int)<=(n:Int))<;>cases b2:decide ((n:Int)<=122)<;>cases b3:decide ((65:Int)<=(n:Int))<;>cases b4:decide ((n:Int)<=90)
 all_goals first|(exfalso;simp only[decide_eq_false_iff_not,decide_eq_true_eq]at b1 b2 b3 b4;omega)|skip
 all_goals
  rw[b1,b2,b3,b4]at H;go_enter Tryz.func150,Tryz.ntmps150;go_wp2_with fail;go_ret;rw[H.out];exact⟨rfl,rfl⟩
theorem H8(w:World)(n:Nat)(hn:n<256):Calls Tryz.prog 122 #[.int .u8 (n:Int)] w fun e w'=>e= .returned (.bool (D2 n))/\w=w':=by
 have e1:decide ((97:Int)<=(n:Int))=decide (97<=n):=by rw[decide_eq_decide];omega
 have e2:decide ((n:Int)<=122)=decide (n<=122):=by rw[decide_eq_decide];omega
 have e3:decide ((65:Int)<=(n:Int))=decide (65<=n):=by rw[decide_eq_decide];omega
 have e4:decide ((n:Int)<=90)=decide (n<=90):=by rw[decide_eq_decide];omega
 have H:Hid (D2 n=((decide ((97:Int)<=(n:Int)) && decide ((n:Int)<=122)) || (decide ((65:Int)<=(n:Int)) && decide ((n:Int)<=90)))):=hid (by rw[e1,e2,e3,e4];rfl);clear e1 e2 e3 e4;cases b1:decide ((97:Int)<=(n:Int))<;>cases b2:decide ((n:Int)<=122)<;>cases b3:decide ((65:Int)<=(n:Int))<;>cases b4:decide ((n:Int)<=90)
 all_goals first|(exfalso;simp only[decide_eq_false_iff_not,decide_eq_true_eq]at b1 b2 b3 b4;omega)|skip
 all_goals
  rw[b1,b2,b3,b4]at H;go_enter Tryz.func122,Tryz.ntmps122;go_wp2_with fail;go_ret;rw[H.out];exact⟨rfl,rfl⟩
theorem NV(w:World)(n:Nat)(hn:n<256):Calls Tryz.prog 151 #[.int .u8 (n:Int)] w fun e w'=>e= .returned (.bool (BQ n))/\w=w':=by
 have H:Hid (BQ n=(D2 n || Df n || n == 95)):=hid rfl;have HL:=hid (fun W=>GI W n hn);have HD:=hid (fun W=>Mu W n hn);have hi:((n:Int) == 95)=(n == 95):=by rw[Bool.eq_iff_iff];simp;omega
 have HI:=hid hi;clear hi;cases h1:D2 n
 ·cases h2:Df n
  ·rw[h1]at HL H;rw[h2]at HD H;clear h1 h2;cases h3:(n == 95)
   all_goals
    have hb:=HI.out;rw[h3]at hb;rw[h3]at H;clear h3;go_enter Tryz.func151,Tryz.ntmps151;go_wp2_with fail;refine(HL.out _).mono ?_
    rintro e w1 ⟨rfl,rfl⟩;go_wp2_with fail;refine(HD.out _).mono ?_
    rintro e w1 ⟨rfl,rfl⟩;go_wp2_with fail;go_ret;rw[H.out];exact⟨rfl,rfl⟩
  ·rw[h1]at HL H;rw[h2]at HD H;clear h1 h2;go_enter Tryz.func151,Tryz.ntmps151;go_wp2_with fail;refine(HL.out _).mono ?_
   rintro e w1 ⟨rfl,rfl⟩;go_wp2_with fail;refine(HD.out _).mono ?_
   rintro e w1 ⟨rfl,rfl⟩;go_wp2_with fail;go_ret;rw[H.out];exact⟨rfl,rfl⟩
 ·rw[h1]at HL H;clear h1;go_enter Tryz.func151,Tryz.ntmps151;go_wp2_with fail;refine(HL.out _).mono ?_
  rintro e w1 ⟨rfl,rfl⟩;go_wp2_with fail;go_ret;rw[H.out];exact⟨rfl,rfl⟩
end Big
end Go.Proofs.YtkoaogkknnelaaaGreatDoor
