import Derived.Test.YtkoaogkknnelaaaGreatDoorM38
set_option linter.unusedVariables false
set_option linter.unusedSimpArgs false
set_option maxHeartbeats 16000000
set_option maxRecDepth 100000
namespace Go.Proofs.YtkoaogkknnelaaaGreatDoor
namespace Big
open Lib renaming hid → J
open Go.RowKit
def Bx(B:Nat)(w:World)(v:Value)(T:List X2):Prop:=w.ownsRow B 3 1 v T.length (T.map fun x=>Value.int .i64 (x.st:Int))
theorem Bx.ext{B:Nat}{w w':World}{v:Value}{T:List X2}(h:Bx B w v T)(hx:Ext w w'):Bx B w' v T:=Ah h (fun k _ hk=>hx.block k hk)
theorem Bx.nil(B:Nat)(w:World):Bx B w (.slice none 0 0) []:=World.ownsRow_nil w B _ 1
theorem Bx.shape{B:Nat}{w:World}{v:Value}{T:List X2}(h:Bx B w v T):∃A c,v= .slice A T.length c:=Aw h
theorem Bx.at{B:Nat}{w:World}{v:Value}{T:List X2}(h:Bx B w v T){i:Nat}(hi:i<T.length):∃g c,v= .slice (some ⟨g,0,none⟩) T.length c/\B<=g/\g<w.heap.size/\w.cell? ⟨g,i,none⟩=some (.int .i64 ((T.getD i X2.O).st:Int)):=by
 have h':=h;unfold Bx at h;rcases h.2 with ⟨_,h2⟩|⟨g,cap,cur,hv,hg,hh,_⟩
 ·omega
 ·subst hv;refine⟨g,cap,rfl,hg,(qcp.1 hh).1,?_⟩;rw[h.cellAt i (by omega),qaP,qaa,qad hi];rfl
theorem Bp.at{B:Nat}{w:World}{v:Value}{T:List X2}(h:Bp B w v T){i:Nat}(hi:i<T.length):∃g c,v= .slice (some ⟨g,0,none⟩) T.length c/\B<=g/\g<w.heap.size/\∃b A n k A' n' k',DJ w g (i*3) b A n k A' n' k'/\Ag 0 w (.agg #[.bool b,.slice A n k,.slice A' n' k']) (T.getD i X2.O).p (T.getD i X2.O).q:=by
 have h':=h;obtain⟨cs,h1,_⟩:=h;obtain⟨A,c,hv,h2⟩:=h'.read;subst hv;obtain⟨g,hA,hg,h3⟩:=h2 (by omega);subst hA;refine⟨g,c,rfl,?_,hg,?_⟩
 ·exact AQ h1 g rfl
 ·have me:T[i]? =some (T.getD i X2.O):=by rw[qaa,qad hi,Option.getD_some]
  obtain⟨b,A,n,k,A',n',k',q1,q2⟩:=(h3 i _ me).open;exact⟨b,A,n,k,A',n',k',q1,q2⟩
theorem JS:(Tryz.prog.info? 26).map (fun i=>(i.zero,i.size,i.bytes))=some (some (.agg #[.bool false,.slice none 0 0,.slice none 0 0]),3,56):=by kernel_rfl
theorem JU:(Tryz.prog.info? 3).map (fun i=>(i.zero,i.size,i.bytes))=some (some (.int .i64 0),1,8):=by kernel_rfl
theorem Jq{W W':World}{B1 B2:Nat}{t1 t2:TypeId}{m1 m2 n1 n2:Nat}{v1 v2:Value}{ZF Xv:List Value}(h1:W.ownsRow B1 t1 m1 v1 n1 ZF)(h2:W.ownsRow B2 t2 m2 v2 n2 Xv)(ht:t1≠t2)(hg:W.grownBy W' v1.ownBlock):W'.ownsRow B2 t2 m2 v2 n2 Xv:=by
 refine Cp h2 (fun k hk=>hg.block k (BV h2 hk) (fun e=> ?_));rcases h1.2 with ⟨rfl,_⟩|⟨q,cap,cur,rfl,_,hh,_⟩
 ·cases e
 ·simp only[Value.ownBlock,qar]at e;subst e;rcases h2.2 with ⟨rfl,_⟩|⟨q',oS,ti,rfl,_,uG,_⟩
  ·cases hk
  ·simp only[Value.ownBlock,qar]at hk;subst hk;rw[hh]at uG;injection uG with uG
   injection uG with _ uG _
   exact ht uG
theorem Es{bb:Bool}{A1 A2:Option Addr}{n1 k1 n2 k2:Nat}:∀u∈([.bool bb,.slice A1 n1 k1,.slice A2 n2 k2]:List Value),u.oneCell'=true:=fun u hu=>by
 simp only[qbl,qbi,or_false]at hu;rcases hu with rfl|rfl|rfl<;>rfl
theorem Ev{z:Int}:∀u∈([.int .i64 z]:List Value),u.oneCell'=true:=fun u hu=>by
 simp only[qbl,qbi,or_false]at hu;subst hu;rfl
def Fi(ns:List Nd)(w:World)(e:Ending)(w':World):Prop:=∃vv sv,e= .returned (.tuple #[vv,sv])/\Bp w.heap.size w' vv (BB ns)/\Bx w.heap.size w' sv (BB ns)/\Ext w w'
noncomputable def EL(T:List X2)(zs:List Nat):List X2:=zs.map fun a=>T.getD a X2.O
theorem Qb(T:List X2)(zs:List Nat){q:Nat}(hq:q<zs.length):EL T (zs.take (q+1))=EL T (zs.take q)++[T.getD (zs.getD q 0) X2.O]:=by
 have h:zs.getD q 0=zs[q]:=by rw[qaa,qad hq];rfl
 unfold EL;rw[qaz hq,qbc,h];rfl
def Gs(L:List X2):Nat:=(L.filter fun x=>x.st == 1).length
def Hi(L:List X2):Bool:=L.any fun x=>x.st == 2
theorem Bp.push{B:Nat}{w w':World}{v v':Value}{T:List X2}{cs:List Value}{x:X2}{b:Bool}{A:Option Addr}{n c:Nat}{A':Option Addr}{n' c':Nat}(hr:DN w cs T)(hk:KU w w')(ho:w'.ownsRow B 26 3 v' (T.length+1) (cs++[.bool b,.slice A n c,.slice A' n' c']))(hx:Ag 0 w (.agg #[.bool b,.slice A n c,.slice A' n' c']) x.p x.q):Bp B w' v' (T++[x]):=by
 have hb:=hx.arr.sign;subst hb;exact⟨_,by rw[qac,qal];exact ho,(hr.ku hk).snoc (hx.ku hk)⟩
theorem Bx.push{B:Nat}{w':World}{v':Value}{T:List X2}{x:X2}(ho:w'.ownsRow B 3 1 v' (T.length+1) (T.map (fun x=>Value.int .i64 (x.st:Int))++[.int .i64 (x.st:Int)])):Bx B w' v' (T++[x]):=by
 unfold Bx;rw[qac,qal,qbc];exact ho
theorem Bx.mono{B B':Nat}{w:World}{v:Value}{T:List X2}(h:Bx B w v T)(hB:B'<=B):Bx B' w v T:=by
 obtain⟨h1,h2⟩:=h;exact⟨h1,h2.imp id (fun ⟨g,cap,cur,q1,q2,q3⟩=>⟨g,cap,cur,q1,by omega,q3⟩)⟩
theorem I4{L:List X2}(h:L.length=2):∃a b,L=[a,b]:=by
 rcases L with _|⟨a,_|⟨b,_|⟨c,L⟩⟩⟩<;>simp at h
 exact⟨a,b,rfl⟩
def DS(x:Nd)(L:List X2):Bool:=
 decide ((x.kind=9/\(L.getD 1 X2.O).st=1/\(L.getD 1 X2.O).p=0)\/(x.kind=10/\x.n<0/\(L.getD 0 X2.O).st=1/\(L.getD 0 X2.O).p=0)\/(x.kind=11/\(L.getD 0 X2.O).st=1/\(L.getD 0 X2.O).p<0)\/(x.kind=13/\(L.getD 0 X2.O).st=1/\(L.getD 0 X2.O).p<=0))
theorem Kt{k:Nat}{t:Tx}(ho:Kc k t)(L:List X2):DS ⟨(k:Int),0,0,0,t⟩ L=false:=by
 have hk:1<=k/\k<=4:=by rcases ho with ⟨h,_⟩|⟨h,_⟩|⟨h,_⟩<;>omega
 unfold DS;rw[decide_eq_false_iff_not];simp only;omega
theorem T4(y:X2):Gs [y]=if y.st=1 then 1 else 0:=by
 unfold Gs;by_cases h:y.st=1
 ·rw[List.filter_cons_of_pos (by simpa using h),if_pos h];rfl
 ·rw[List.filter_cons_of_neg (by simpa using h),if_neg h];rfl
theorem U3(y z:X2):Gs [y,z]=(if y.st=1 then 1 else 0)+if z.st=1 then 1 else 0:=by
 have h1:=T4 z;unfold Gs at *;by_cases h:y.st=1
 ·rw[List.filter_cons_of_pos (by simpa using h),if_pos h,qaC,h1];omega
 ·rw[List.filter_cons_of_neg (by simpa using h),if_neg h,h1];omega
theorem U5(y:X2):Hi [y]=decide (y.st=2):=by
 unfold Hi;rw[qaM];simp
theorem U4(y z:X2):Hi [y,z]=decide (y.st=2\/z.st=2):=by
 unfold Hi;rw[qaM];simp
theorem Bp.one{B:Nat}{w:World}{v:Value}{y:X2}(h:Bp B w v [y]):∃g c b A n k A' n' k',v= .slice (some ⟨g,0,none⟩) 1 c/\DJ w g 0 b A n k A' n' k'/\Ag 0 w (.agg #[.bool b,.slice A n k,.slice A' n' k']) y.p y.q:=by
 obtain⟨g,c,hv,_,_,b,A,n,k,A',n',k',h1,h2⟩:=h.at (i:=0) (by simp);exact⟨g,c,b,A,n,k,A',n',k',hv,by simpa using h1,by simpa using h2⟩
theorem Bp.two{B:Nat}{w:World}{v:Value}{y z:X2}(h:Bp B w v [y,z]):∃g c b A n k A' n' k' f C i j C' i' j',v= .slice (some ⟨g,0,none⟩) 2 c/\DJ w g 0 b A n k A' n' k'/\Ag 0 w (.agg #[.bool b,.slice A n k,.slice A' n' k']) y.p y.q/\DJ w g 3 f C i j C' i' j'/\Ag 0 w (.agg #[.bool f,.slice C i j,.slice C' i' j']) z.p z.q:=by
 obtain⟨g,c,hv,_,_,b,A,n,k,A',n',k',h1,h2⟩:=h.at (i:=0) (by simp);obtain⟨g2,c2,hv2,_,_,f,C,i,j,C',i',j',h3,h4⟩:=h.at (i:=1) (by simp);rw[hv]at hv2;injection hv2 with e1 _ e2
 injection e1 with e1
 injection e1 with e1
 subst e1;exact⟨g,c,b,A,n,k,A',n',k',f,C,i,j,C',i',j',hv,by simpa using h1,by simpa using h2,by simpa using h3,by simpa using h4⟩
theorem Te(B:Nat)(w:World)(x:Nd){m:Nat}(h:CF m x)(L:List X2)(hL:L.length=(BN x).length)(aA:∀y∈L,y.Ok)(lv sv:Value)(h1:Bp B w lv L)(h2:Bx B w sv L):Calls Tryz.prog 86 #[ndV x,lv,sv] w fun e w'=>e= .returned (.bool (DS x L))/\Ext w w':=by
 rcases h with ⟨k,t,rfl,ho⟩|⟨k,n,j,rfl,ho,hj⟩|⟨k,j,q,rfl,hk,hj,hq⟩
 ·have hk:1<=k/\k<=4:=by rcases ho with ⟨h,_⟩|⟨h,_⟩|⟨h,_⟩<;>omega
  rw[Kt ho];exact Nq w _ _ _ _ _ _ _ (by omega) (by omega) (by omega) (by omega)
 ·have hk:=ho.1;rw[Cz ho]at hL;obtain⟨y,rfl⟩:=qci.1 hL;obtain⟨gl,cl,b,A,n1,k1,A',n',k',rfl,hc,hi⟩:=h1.one;obtain⟨gs,cs,rfl,_,_,dY⟩:=h2.at (i:=0) (by simp);have hz:=(aA y (by simp)).size;by_cases h10:k=10
  ·subst h10;have hu:DS ⟨((10:Nat):Int),(j:Int),0,n,[]⟩ [y]=decide (n<0/\y.st=1/\y.p=0):=by
    unfold DS;rw[decide_eq_decide];simp only[qaD];omega
   rw[hu];exact UP w _ _ _ _ gl 1 cl gs 1 cs y.st y.p y.q b A n1 k1 A' n' k' hc (by decide) (by decide) dY hi hz.1 hz.2
  by_cases h11:k=11
  ·subst h11;have hu:DS ⟨((11:Nat):Int),(j:Int),0,n,[]⟩ [y]=decide (y.st=1/\y.p<0):=by
    unfold DS;rw[decide_eq_decide];simp only[qaD];omega
   rw[hu];exact UO w _ _ _ _ gl 1 cl gs 1 cs y.st y.p y.q b A n1 k1 A' n' k' hc (by decide) (by decide) dY hi hz.1 hz.2
  by_cases h13:k=13
  ·subst h13;have hu:DS ⟨((13:Nat):Int),(j:Int),0,n,[]⟩ [y]=decide (y.st=1/\y.p<=0):=by
    unfold DS;rw[decide_eq_decide];simp only[qaD];omega
   rw[hu];exact UN w _ _ _ _ gl 1 cl gs 1 cs y.st y.p y.q b A n1 k1 A' n' k' hc (by decide) (by decide) dY hi hz.1 hz.2
  have hu:DS ⟨(k:Int),(j:Int),0,n,[]⟩ [y]=false:=by
   unfold DS;rw[decide_eq_false_iff_not];simp only;omega
  rw[hu];exact Nq w _ _ _ _ _ _ _ (by omega) (by omega) (by omega) (by omega)
 ·rw[BW hk]at hL;obtain⟨y,z,rfl⟩:=I4 hL;obtain⟨gl,cl,b,A,n1,k1,A',n',k',f,C,i2,j2,C',i',j',rfl,hc,hi,df,ay⟩:=h1.two;obtain⟨gs,cs,rfl,_,_,dY⟩:=h2.at (i:=1) (by simp);have hz:=(aA z (by simp)).size;by_cases h9:k=9
  ·subst h9;have hu:DS ⟨((9:Nat):Int),(j:Int),(q:Int),0,[]⟩ [y,z]=decide (z.st=1/\z.p=0):=by
    unfold DS;rw[decide_eq_decide];simp only[qaD,qbJ];omega
   rw[hu];exact Vh w _ _ _ _ gl 2 cl gs 2 cs z.st z.p z.q f C i2 j2 C' i' j' df (by decide) (by decide) dY ay hz.1 hz.2
  have hu:DS ⟨(k:Int),(j:Int),(q:Int),0,[]⟩ [y,z]=false:=by
   unfold DS;rw[decide_eq_false_iff_not];simp only;omega
  rw[hu];exact Nq w _ _ _ _ _ _ _ (by omega) (by omega) (by omega) (by omega)
theorem Td(B:Nat)(w:World)(x:Nd){m:Nat}(h:CF m x)(L:List X2)(hL:L.length=(BN x).length)(aA:∀y∈L,y.Ok)(lv:Value)(h1:Bp B w lv L)(hu:DS x L=false)(hn:Gs L=(BN x).length):Calls Tryz.prog 88 #[ndV x,lv] w (Di (Bj x (L.getD 0 X2.O) (L.getD 1 X2.O)) w):=by
 rcases h with ⟨k,t,rfl,ho⟩|⟨k,n,j,rfl,ho,hj⟩|⟨k,j,q,rfl,hk,hj,hq⟩
 ·rcases ho with ⟨rfl,h2,_⟩|⟨rfl,h2⟩|⟨rfl|rfl,rfl⟩
  ·have he:Bj ⟨((1:Nat):Int),0,0,0,t⟩ (L.getD 0 X2.O) (L.getD 1 X2.O)=AN (HJ t) (Ia t):=rfl;rw[he];exact rv1 w _ _ _ t lv h2
  ·exact rv2 w _ (.inl rfl) _ _ _ t lv
  ·exact rv2 w _ (.inr (.inl rfl)) _ _ _ _ lv
  ·exact rv2 w _ (.inr (.inr rfl)) _ _ _ _ lv
 ·have hk:=ho.1;rw[Cz ho]at hL hn;obtain⟨y,rfl⟩:=qci.1 hL;obtain⟨gl,cl,b,A,n1,k1,A',n',k',rfl,hc,hi⟩:=h1.one;have hy:=aA y (by simp);have hz:=hy.size;have hst:y.st=1:=by
   rw[T4]at hn;split at hn
   ·assumption
   ·simp at hn
  have fS:=hy.low hst;have he:Bj ⟨(k:Int),(j:Int),0,n,[]⟩ ([y].getD 0 X2.O) ([y].getD 1 X2.O)=unX k n y.p y.q:=by
   unfold Bj;rw[if_neg (by simp only;omega),if_neg (by simp only;omega)];simp only[qaD];rw[if_neg (by omega),if_pos hst]
  rw[he];unfold DS at hu;rw[decide_eq_false_iff_not]at hu;simp only[qaD]at hu;have dN:=ho.2.2;rcases(show k=5\/k=10\/k=11\/k=12\/k=13\/k=14\/k=15\/k=16 by omega) with rfl|rfl|rfl|rfl|rfl|rfl|rfl|rfl
  ·exact rv5 w _ _ n _ y.p y.q b A n1 k1 A' n' k' gl 1 cl hc (by decide) hi fS hz.1 hz.2
  ·exact Vl w _ _ n _ y.p y.q b A n1 k1 A' n' k' gl 1 cl hc (by decide) hi fS hz.1 hz.2 dN.1 dN.2 (by omega)
  ·exact Vk w _ _ n _ y.p y.q b A n1 k1 A' n' k' gl 1 cl hc (by decide) hi fS hz.1 hz.2 (by omega)
  ·exact UX w _ (.inl rfl) _ _ n _ y.p y.q b A n1 k1 A' n' k' gl 1 cl hc (by decide) hi fS hz.1 hz.2
  ·exact Vj w _ _ n _ y.p y.q b A n1 k1 A' n' k' gl 1 cl hc (by decide) hi fS hz.1 hz.2 (by omega)
  ·exact UW w _ (.inl rfl) _ _ n _ y.p y.q b A n1 k1 A' n' k' gl 1 cl hc (by decide) hi fS hz.1 hz.2
  ·exact UX w _ (.inr rfl) _ _ n _ y.p y.q b A n1 k1 A' n' k' gl 1 cl hc (by decide) hi fS hz.1 hz.2
  ·exact UW w _ (.inr rfl) _ _ n _ y.p y.q b A n1 k1 A' n' k' gl 1 cl hc (by decide) hi fS hz.1 hz.2
 ·rw[BW hk]at hL hn;obtain⟨y,z,rfl⟩:=I4 hL;obtain⟨gl,cl,b,A,n1,k1,A',n',k',f,C,i2,j2,C',i',j',rfl,hc,hi,df,ay⟩:=h1.two;have hy:=aA y (by simp);have hz:=aA z (by simp);have hst:y.st=1/\z.st=1:=by
   rw[U3]at hn;simp only[qaC,qaZ]at hn;by_cases h1:y.st=1<;>by_cases h2:z.st=1<;>simp[h1,h2]at hn ⊢
  have xY:=hy.low hst.1;have fz:=hz.low hst.2;have nZ:=hy.size;have cA:=hz.size;unfold DS at hu;rw[decide_eq_false_iff_not]at hu;simp only[qaD,qbJ]at hu;have he:Bj ⟨(k:Int),(j:Int),(q:Int),0,[]⟩ ([y,z].getD 0 X2.O) ([y,z].getD 1 X2.O)=biX k y.p y.q z.p z.q:=by
   unfold Bj;rw[if_neg (by simp only;omega),if_pos (by simp only;omega)];simp only[qaD,qbJ];rw[if_neg (by omega),if_neg (by omega),if_pos hst]
  rw[he];rcases(show k=6\/k=7\/k=8\/k=9 by omega) with rfl|rfl|rfl|rfl
  ·exact rv6 w _ _ _ _ y.p y.q b A n1 k1 A' n' k' z.p z.q f C i2 j2 C' i' j' gl 2 cl hc (by decide) hi xY nZ.1 nZ.2 df ay fz cA.1 cA.2
  ·exact rv7 w _ _ _ _ y.p y.q b A n1 k1 A' n' k' z.p z.q f C i2 j2 C' i' j' gl 2 cl hc (by decide) hi xY nZ.1 nZ.2 df ay fz cA.1 cA.2
  ·exact rv8 w _ _ _ _ y.p y.q b A n1 k1 A' n' k' z.p z.q f C i2 j2 C' i' j' gl 2 cl hc (by decide) hi xY nZ.1 nZ.2 df ay fz cA.1 cA.2
  ·exact rv9 w _ _ _ _ y.p y.q b A n1 k1 A' n' k' z.p z.q f C i2 j2 C' i' j' gl 2 cl hc (by decide) hi xY nZ.1 nZ.2 df ay fz cA.1 cA.2 (by omega)
theorem Q9{x:Nd}{m:Nat}(h:CF m x){L:List X2}(hL:L.length=(BN x).length)(hb:Hi L=true\/DS x L=true):Bj x (L.getD 0 X2.O) (L.getD 1 X2.O)=X2.U:=by
 rcases h with ⟨k,t,rfl,ho⟩|⟨k,n,j,rfl,ho,hj⟩|⟨k,j,q,rfl,hk,hj,hq⟩
 ·rw[CP ho]at hL;rw[Kt ho]at hb;obtain rfl:=qap hL;rcases hb with hb|hb
  ·cases hb
  ·cases hb
 ·have hk:=ho.1;rw[Cz ho]at hL;obtain⟨y,rfl⟩:=qci.1 hL;rw[U5]at hb;unfold DS at hb;simp only[decide_eq_true_eq,qaD]at hb;unfold Bj;rw[if_neg (by simp only;omega),if_neg (by simp only;omega)];simp only[qaD];by_cases h2:y.st=2
  ·rw[if_pos h2]
  ·have h1:y.st=1:=by omega
   rw[if_neg h2,if_pos h1];unfold unX GK;rcases(show k=10\/k=11\/k=13 by omega) with rfl|rfl|rfl
   ·rw[if_neg (by omega),if_pos (by omega),if_neg (by omega),if_pos (by omega)]
   ·rw[if_neg (by omega),if_neg (by omega),if_pos (by omega),if_pos (by omega)]
   ·rw[if_neg (by omega),if_neg (by omega),if_neg (by omega),if_pos (by omega),if_pos (by omega)]
 ·rw[BW hk]at hL;obtain⟨y,z,rfl⟩:=I4 hL;rw[U4]at hb;unfold DS at hb;simp only[decide_eq_true_eq,qaD,qbJ]at hb;unfold Bj;rw[if_neg (by simp only;omega),if_pos (by simp only;omega)];simp only[qaD,qbJ];by_cases h2:y.st=2\/z.st=2
  ·rw[if_pos h2]
  ·rw[if_neg h2,if_pos (by omega)]
theorem Q8{x:Nd}{m:Nat}(h:CF m x){L:List X2}(hL:L.length=(BN x).length)(hb:Hi L=false)(hu:DS x L=false)(hn:Gs L≠(BN x).length):Bj x (L.getD 0 X2.O) (L.getD 1 X2.O)=X2.O:=by
 rcases h with ⟨k,t,rfl,ho⟩|⟨k,n,j,rfl,ho,hj⟩|⟨k,j,q,rfl,hk,hj,hq⟩
 ·rw[CP ho]at hL hn;obtain rfl:=qap hL;exact absurd rfl hn
 ·have hk:=ho.1;rw[Cz ho]at hL hn;obtain⟨y,rfl⟩:=qci.1 hL;rw[U5,decide_eq_false_iff_not]at hb;rw[T4]at hn;have h1:y.st≠1:=by intro h;rw[if_pos h]at hn;exact hn rfl
  unfold Bj;rw[if_neg (by simp only;omega),if_neg (by simp only;omega)];simp only[qaD];rw[if_neg hb,if_neg h1]
 ·rw[BW hk]at hL hn;obtain⟨y,z,rfl⟩:=I4 hL;rw[U4,decide_eq_false_iff_not]at hb;rw[U3]at hn;have h1:¬(y.st=1/\z.st=1):=by rintro⟨h1,h2⟩;rw[if_pos h1,if_pos h2]at hn;exact hn rfl
  unfold DS at hu;simp only[decide_eq_false_iff_not,qaD,qbJ]at hu;unfold Bj;rw[if_neg (by simp only;omega),if_pos (by simp only;omega)];simp only[qaD,qbJ];rw[if_neg hb,if_neg (by omega),if_neg h1]
theorem Q7{x:Nd}{m:Nat}(h:CF m x)(T:List X2):Bj x ((EL T (BN x)).getD 0 X2.O) ((EL T (BN x)).getD 1 X2.O)=Bj x (T.getD x.a.toNat X2.O) (T.getD x.b.toNat X2.O):=by
 rcases h with ⟨k,t,rfl,ho⟩|⟨k,n,j,rfl,ho,hj⟩|⟨k,j,q,rfl,hk,hj,hq⟩
 ·have hk:1<=k/\k<=4:=by rcases ho with ⟨h,_⟩|⟨h,_⟩|⟨h,_⟩<;>omega
  exact EH (by simp only;omega) _ _ _ _
 ·have hk:=ho.1;rw[Cz ho];exact GB (by simp only;omega) (by simp only;omega) _ _ _
 ·rw[BW hk];rfl
theorem Tu{T:List X2}(h:∀x∈T,x.Ok)(zs:List Nat):∀y∈EL T zs,y.Ok:=by
 intro y hy;unfold EL at hy;obtain⟨a,_,rfl⟩:=qcz.1 hy;rw[qaa];rcases he:T[a]? with _|z
 ·exact X2.O_ok
 ·exact h z (qbf he)
structure TR (w0 wr W:World) (v s:Value) (n1 n2:Nat) (cs ss:List Value):Prop where
 e:Ext w0 W
 k:KU wr W
 r:W.ownsRow w0.heap.size 26 3 v n1 cs
 s:W.ownsRow w0.heap.size 3 1 s n2 ss
theorem TR.ext{w0 wr W W':World}{v s:Value}{n1 n2:Nat}{cs ss:List Value}(h:TR w0 wr W v s n1 n2 cs ss)(hx:Ext W W'):TR w0 wr W' v s n1 n2 cs ss:=
 ⟨h.e.trans hx,h.k.trans (KU.of_ext hx),Ah h.r (fun k _ hk=>hx.block k hk),Ah h.s (fun k _ hk=>hx.block k hk)⟩
theorem TR.row{w0 wr W W':World}{v s v':Value}{n1 n2 n':Nat}{cs ss YM:List Value}(h:TR w0 wr W v s n1 n2 cs ss)(hg:W.grownBy W' v.ownBlock)(ho:W'.ownsRow w0.heap.size 26 3 v' n' YM):TR w0 wr W' v' s n' n2 YM ss:=
 ⟨h.e.grown hg (AQ h.r),h.k.trans (KU.grown hg (BJ h.r (by decide))),ho,Jq h.r h.s (by decide) hg⟩
theorem TR.col{w0 wr W W':World}{v s s':Value}{n1 n2 n':Nat}{cs ss Xz:List Value}(h:TR w0 wr W v s n1 n2 cs ss)(hg:W.grownBy W' s.ownBlock)(ho:W'.ownsRow w0.heap.size 3 1 s' n' Xz):TR w0 wr W' v s' n1 n' cs Xz:=
 ⟨h.e.grown hg (AQ h.s),h.k.trans (KU.grown hg (BJ h.s (by decide))),Jq h.s h.r (by decide) hg,ho⟩
theorem Blk.past{W W':World}{b:Nat}{t t':TypeId}{cs:Array Value}{B m n:Nat}{v:Value}{xs:List Value}(hb:Blk W b t cs)(hr:W.ownsRow B t' m v n xs)(ht:t'≠t)(hg:W.grownBy W' v.ownBlock):Blk W' b t cs:=by
 refine(hg.block b hb.lt (fun e=> ?_)).trans hb;rcases hr.2 with ⟨rfl,_⟩|⟨q,cap,cur,rfl,_,hh,_⟩
 ·cases e
 ·simp only[Value.ownBlock,qar]at e;subst e;unfold Blk at hb;rw[hh]at hb;injection hb with hb
  injection hb with _ hb
  exact ht hb
section
open Go
variable {P:Program} {ops:Array Oper} {Q:Exit->Act->World->Prop} {md:Region.Mode} {S:World->Prop}
theorem tk (i d:Nat) {p t s af gd} {v:Value} {fuel:Nat} {listed:Array Bool} {a:Act} {w:World} (hi:ops[i]? =some ⟨some d,p,t,s,af,gd⟩)
  (hc:(Region.noSelect ops && Region.free md ops listed i && (Region.ready md ops listed).contains i)=true)
  (hQ:∀c a w,Q (.panic c) (a.put (some d) v) w->Q (.panic c) a w) (hw:Region.wanted ⟨some d,p,t,s,af,gd⟩ (yielded ops a.tmps)=true) (hS:S w)
  (hy:∀w',S w'->(execOp a.eval ⟨some d,p,t,s,af,gd⟩).run P w'= .ok (.value v) w')
  (h:wpAnyH P md ops Q S fuel (listed.setIfInBounds i true) (a.put (some d) v) w):wpAnyH P md ops Q S (fuel+1) listed a w:=by
 simp only[qaT]at hc;exact wpAnyH_take hi hc.1.1 hc.1.2 hc.2 hQ (Or.inl ⟨hw,hy⟩) hS h
end
theorem atH{P:Program}{md:Region.Mode}{ops:Array Oper}{Q:Exit->Act->World->Prop}{S:World->Prop}{fuel:Nat}{listed:Array Bool}{a:Act}{w:World}(F:World->Prop)(hF:F w)(hS:S w)(h:∀W,F W->S W->wpAnyH P md ops Q S fuel listed a W):wpAnyH P md ops Q S fuel listed a w:=h w hF hS
theorem Bp.tr{w0 wr W:World}{v s:Value}{n2:Nat}{cs ss:List Value}{T:List X2}{x:X2}{b:Bool}{A:Option Addr}{n c:Nat}{A':Option Addr}{n' c':Nat}(h:TR w0 wr W v s (T.length+1) n2 (cs++[.bool b,.slice A n c,.slice A' n' c']) ss)(hr:DN wr cs T)(hx:Ag 0 wr (.agg #[.bool b,.slice A n c,.slice A' n' c']) x.p x.q):Bp w0.heap.size W v (T++[x]):=Bp.push (v:=v) hr h.k h.r hx
theorem Bx.tr{w0 wr W:World}{v s:Value}{n1:Nat}{cs:List Value}{T:List X2}{x:X2}(h:TR w0 wr W v s n1 (T.length+1) cs (T.map (fun x=>Value.int .i64 (x.st:Int))++[.int .i64 (x.st:Int)])):Bx w0.heap.size W s (T++[x]):=Bx.push h.s
theorem ST(L:List X2)(x:X2):Hi (L++[x])=(Hi L || (x.st == 2)):=by
 unfold Hi;rw[List.any_append,List.any_cons,List.any_nil,qbv]
theorem SN(L:List X2)(x:X2):Gs (L++[x])=Gs L+if x.st=1 then 1 else 0:=by
 have h:=T4 x;unfold Gs at *;rw[List.filter_append,qac,h]
theorem UD(L:List X2):Gs L<=L.length:=List.length_filter_le _ _
theorem LH{L:List X2}(h:∀y∈L,y.Ok)(i:Nat):(L.getD i X2.O).Ok:=by
 rw[qaa];rcases he:L[i]? with _|z
 ·exact X2.O_ok
 ·exact h z (qbf he)
theorem Jm(B g:Nat)(w:World)(ns:List Nd)(rv:Value)(h:GrR B g w ns rv):Calls Tryz.prog 29 #[.pointer (some ⟨g,0,none⟩)] w (Fi ns w):=by
 have HS:=J h.ok;have dz:=h.few;obtain⟨n,dZ⟩:∃n,n=ns.length:=⟨_,rfl⟩;have iv:=J dZ;obtain⟨k0,f0,eC⟩:=h.blk.oneG;obtain⟨A,c,vz,kK⟩:=h.row.read;subst vz;have l8:=J kK;rw[<-dZ]at k0 dz;unfold Fi;have bP:=J (Ext.refl w);clear h kK dZ;go_enter Tryz.func29,Tryz.ntmps29;go_wp2_with fail;go_loopw [23,4,5] (fun uX s4 s5 wr=>∃k:Nat,k<=n/\uX= .int .i64 (k:Int)/\Bp w.heap.size wr s4 (BB (ns.take k))/\Bx w.heap.size wr s5 (BB (ns.take k))/\Ext w wr) (fun uX _ _ _=>n-(intOf uX).toNat)
 case atStart=>exact⟨0,qaj _,rfl,by rw[qbw];exact Bp.nil _ _,by rw[qbw];exact Bx.nil _ _,bP.o⟩
 case round=>
  clear bP;obtain⟨k,hk,rfl,jH,iB,hx⟩:=hrel;obtain⟨AV,cV,rfl⟩:=jH.shape;obtain⟨AS,cS,rfl⟩:=iB.shape;have jk:(BB (ns.take k)).length=k:=by rw[CZ,qam];have:=iv.o;omega
  rw[jk]at jH iB ⊢;by_cases hlt:k<n
  ·have i4:k<ns.length:=by rw[<-iv.o];exact hlt
   have aA:=HS.o.2 k _ (qad i4);have dq:Hid (BB (ns.take (k+1))=BB (ns.take k)++[Bj ns[k] ((BB (ns.take k)).getD ns[k].a.toNat X2.O) ((BB (ns.take k)).getD ns[k].b.toNat X2.O)]):=J (by rw[qaz i4,Hr];rfl);have uP:=J (IX (ns.take k));have jv:=J jk;generalize BB (ns.take k)=T at *;have i7:=J jH;have i8:=J iB;have HX:=J hx;have kq:=J aA.args_lt;have jT:=aA.args_len;have pc:=J aA.oper;have uU:=J (fun W=>KH W ns[k] aA);unfold Nh at uU;obtain⟨gb,o,rfl,eU,hc⟩:=l8.o (by have:=iv.o;omega);obtain⟨p0,p1,p2,p3,p4⟩:=hc k i4;rw[<-hx.cell eU]at p0 p1 p2 p3 p4;have aC:gb<wr.heap.size:=qan eU hx.size;have mm:(0:Int)<=(k:Int):=by omega
   have qY:(k:Int)<(n:Int):=by omega
   have vg:IntKind.i64.wrap ((k:Int)+1)=(k:Int)+1:=IntWalk.i64_in _ (by omega);have gN:=J aA;clear hc jH iB hx jk;obtain⟨zs,nQ⟩:∃zs,zs=BN ns[k]:=⟨_,rfl⟩;rw[<-nQ]at kq jT pc uU;obtain⟨x,XG⟩:∃x,ns[k]=x:=⟨_,rfl⟩;rw[XG]at nQ dq pc uU gN p0 p1 p2 p3 p4;have yr:=J nQ;clear i4 aA nQ XG;obtain⟨y0,y1,y2,y3,y4⟩:=x;simp only[ndV]at uU;simp only at p0 p1 p2 p3 p4 pc;obtain⟨s,hst⟩:∃s:ByteArray,str y4= .string s:=⟨_,rfl⟩;have bF:=J hst;rw[hst]at p4 uU;clear hst;have HN:=J (Blk.new wr 95 #[.int .i64 y0,.int .i64 y1,.int .i64 y2,.int .i64 y3,.string s]);have bH:=(Ext.refl wr).alloc (.cells #[.int .i64 y0,.int .i64 y1,.int .i64 y2,.int .i64 y3,.string s] 95);go_upto_region 6 with fail;generalize wr.alloc (.cells #[.int .i64 y0,.int .i64 y1,.int .i64 y2,.int .i64 y3,.string s] 95)=w7 at *;have HX:=J (HX.o.trans bH);have i7:=J (i7.o.ext bH);have i8:=J (i8.o.ext bH);generalize wr.heap.size=nb at *;clear bH p0 p1 p2 p3 p4 k0 f0;have ao:=HN.o.five;go_wp2_with fail;refine(uU.o w7).mono ?_
   rintro e w8 ⟨A8,c8,rfl,bJ,Yi⟩;have dF:=J (HX.o.trans bJ);have tI:=J (i7.o.ext bJ);have tK:=J (i8.o.ext bJ);have lR:=J (HN.o.ext bJ);clear HX i7 i8 HN;have Zu:=J Yi;obtain⟨m,hm⟩:∃m,m=zs.length:=⟨_,rfl⟩;have HM:=J hm;rw[<-hm]at jT ⊢;clear bJ Yi ao hm;go_wp2_with fail;generalize wr=wa at *;go_loopw [30,8,9,10,11] (fun uW s8 s9 s10 s11 wr=>∃q:Nat,q<=m/\uW= .int .i64 (q:Int)/\Bp w8.heap.size wr s8 (EL T (zs.take q))/\Bx w8.heap.size wr s9 (EL T (zs.take q))/\s10= .int .i64 (Gs (EL T (zs.take q)):Int)/\s11= .bool (Hi (EL T (zs.take q)))/\Ext w8 wr) (fun uW _ _ _ _ _=>m-(intOf uW).toNat)
   case atStart=>exact⟨0,qaj _,rfl,Bp.nil _ _,Bx.nil _ _,rfl,rfl,Ext.refl _⟩
   case round=>
    obtain⟨q,hq,rfl,sx,ny,rfl,rfl,hx⟩:=hrel;obtain⟨AL,cL,rfl⟩:=sx.shape;obtain⟨AM,cM,rfl⟩:=ny.shape;have nx:(EL T (zs.take q)).length=q:=by unfold EL;rw[qas,qam];have:=HM.o;omega
    rw[nx]at sx ny ⊢;by_cases hqm:q<m
    ·obtain⟨b8,rfl,am,hb2,aa⟩:=Zu.o (by have:=HM.o;omega);have pO:=(hx.cell hb2).trans (aa q (by have:=HM.o;omega));have XD:zs.getD q 0<k:=by
      rw[qaa,qad (by have:=HM.o;omega)];exact kq.o _ (qaw _)
     have kh:=J (Qb T zs (q:=q) (by have:=HM.o;omega));obtain⟨gv,cv,Vy,Vv,wq,bb,A1,n1,k1,A2,n2,k2,sb,p9⟩:=tI.o.at (i:=zs.getD q 0) (by rw[jv.o];exact XD);obtain⟨gs,cs2,Vz,i5,sM,dY⟩:=tK.o.at (i:=zs.getD q 0) (by rw[jv.o];exact XD);generalize T.getD (zs.getD q 0) X2.O=y at *;generalize EL T (zs.take q)=L at *;obtain⟨L2,hl2⟩:∃L2,L2=EL T (zs.take (q+1)):=⟨_,rfl⟩;rw[<-hl2]at kh;have ib:=J hl2;clear hl2;generalize zs.getD q 0=a at *;injection Vy with ev1 evn ev2
     injection Vz with es1 esn es2
     clear evn esn;subst ev1;subst es1;subst ev2;subst es2;obtain⟨jU,iG,kB⟩:=sx;rw[nx]at iG;have W6:=J (fun W (hx:Ext wr W)=>Ah iG (fun k _ hk=>hx.block k hk));have pm:=J kB;have nI:=J (fun W (hx:Ext wr W)=>ny.ext hx);unfold Bx at nI;rw[nx]at nI;have lm:=J nx;have yz:=J (fun W (hx:Ext w8 W)=>sb.ext hx);have gL:=J (fun W (hx:Ext w8 W)=>(hx.cell sM).trans dY);have uQ:=J p9;have xk:=J hx;have mg:(0:Int)<=(q:Int):=by omega
     have zF:(q:Int)<(m:Int):=by omega
     have VW:(0:Int)<=(a:Int):=by omega
     have yi:(a:Int)<(k:Int):=by omega
     have hwq:IntKind.i64.wrap ((q:Int)+1)=(q:Int)+1:=IntWalk.i64_in _ (by omega);have HS8:Hid (w8.heap.size<=wr.heap.size):=J hx.size;obtain⟨i0,hi,aD,hz1,bu⟩:=info_parts JS;obtain⟨j0,hj,dE,aT,bQ⟩:=info_parts JU;have ef:=J (And.intro hi (And.intro aD (And.intro hz1 bu)));have ee:=J (And.intro hj (And.intro dE (And.intro aT bQ)));have dH:=J (fun k hk=>BV (W6.o wr (Ext.refl _)) (k:=k) hk);clear hi aD hz1 bu hj dE aT bQ;clear nx ny kB p9 iG hx hlt aa sb dY Vv i5 wq sM;clear dH;go_upto_region 13 with fail
     go_cut [8,9] from 34 to 47 (fun s8 s9 wx=>Bp w8.heap.size wx s8 L2/\Bx w8.heap.size wx s9 L2/\Ext w8 wx)
     case first=>
      refine wp_region_held_drew (S:=fun w'=>Ext w8 w') (by kernel_rfl) (by exact xk.o.drew) (fun hHeld=> ?_);refine atH (fun W=>TR w8 wr W (.slice AL q cL) (.slice AM q cM) q q jU (L.map fun x=>Value.int .i64 (x.st:Int))) (TR.ext ⟨xk.o,KU.refl _,W6.o _ (Ext.refl _),nI.o _ (Ext.refl _)⟩ (Ext.refl _).drew) hHeld ?_
      clear hHeld;intro W0 hT hHeld;have HT:=J hT;clear hT;refine' tk 0 34 rfl (by kernel_rfl) (fun _ _ _ h=>h) (by rfl) hHeld ?_ ?_
      rotate_left
      ·(intro _ _;go_simp;(try with_reducible rfl))
      try simp only[pu]
      refine' tk 1 35 rfl (by kernel_rfl) (fun _ _ _ h=>h) (by rfl) hHeld ?_ ?_
      rotate_left
      ·(intro _ _;go_simp;(try with_reducible rfl))
      try simp only[pu]
      refine' tk 2 36 rfl (by kernel_rfl) (fun _ _ _ h=>h) (by rfl) hHeld ?_ ?_
      rotate_left
      ·(intro _ _;go_simp;(try with_reducible rfl))
      try simp only[pu]
      refine' tk 3 37 rfl (by kernel_rfl) (fun _ _ _ h=>h) (by rfl) hHeld ?_ ?_
      rotate_left
      ·(intro _ _;go_simp;(try with_reducible rfl))
      try simp only[pu]
      refine' tk 4 38 rfl (by kernel_rfl) (fun _ _ _ h=>h) (by rfl) hHeld ?_ ?_
      rotate_left
      ·(intro w' bj;(try dsimp only at bj);obtain⟨c0,c1,c2⟩:=yz.o _ bj;go_simp;(try with_reducible rfl))
      try simp only[pu]
      refine' tk 7 41 rfl (by kernel_rfl) (fun _ _ _ h=>h) (by rfl) hHeld ?_ ?_
      rotate_left
      ·(intro _ _;go_simp;(try with_reducible rfl))
      try simp only[pu]
      refine' tk 8 42 rfl (by kernel_rfl) (fun _ _ _ h=>h) (by rfl) hHeld ?_ ?_
      rotate_left
      ·(intro _ _;go_simp;(try with_reducible rfl))
      try simp only[pu]
      refine' tk 9 43 rfl (by kernel_rfl) (fun _ _ _ h=>h) (by rfl) hHeld ?_ ?_
      rotate_left
      ·(intro _ _;go_simp;(try with_reducible rfl))
      try simp only[pu]
      refine' tk 10 44 rfl (by kernel_rfl) (fun _ _ _ h=>h) (by rfl) hHeld ?_ ?_
      rotate_left
      ·(intro _ _;go_simp;(try with_reducible rfl))
      try simp only[pu]
      refine' tk 11 45 rfl (by kernel_rfl) (fun _ _ _ h=>h) (by rfl) hHeld ?_ ?_
      rotate_left
      ·(intro w' bj;(try dsimp only at bj);have pN:=gL.o _ bj;go_simp;(try with_reducible rfl))
      try simp only[pu]
      refine wpAnyH_ready (rs:=[5,12]) (by kernel_rfl) (by simp) ?_
      refine AllReadyH.cons (i:=5) (o:=⟨some 39,_,_,_,_,_⟩) rfl (fun K hK=> ?_) (AllReadyH.cons (i:=12) (o:=⟨some 46,_,_,_,_,_⟩) rfl (fun K hK=> ?_) AllReadyH.nil)
      ·go_simp;try go_wp2_with fail
       refine hK.out _ _ ?_ (fun hHeld=> ?_)
       ·first|exact HT.o.e.alloc _|exact(HT.o.e.alloc _).drew
       clear hK K;try simp only[pu]
       obtain⟨nr,mi⟩:∃nr,W0.heap.size=nr:=⟨_,rfl⟩;have hz:=Blk.new W0 26 #[.bool bb,.slice A1 n1 k1,.slice A2 n2 k2];rw[mi]at hz ⊢;refine atH (fun W=>TR w8 wr W (.slice AL q cL) (.slice AM q cM) q q jU (L.map fun x=>Value.int .i64 (x.st:Int))/\Blk W nr 26 #[.bool bb,.slice A1 n1 k1,.slice A2 n2 k2]) ⟨HT.o.ext ((Ext.refl _).alloc _),hz⟩ hHeld ?_
       clear hHeld hz mi;rintro W1 ⟨hT,hB⟩ hHeld;have HT:=J hT;have HB:=J hB;clear hT hB;refine wpAnyH_ready (rs:=[6,12]) (by kernel_rfl) (by simp) ?_
       refine AllReadyH.cons (i:=6) (o:=⟨some 40,_,_,_,_,_⟩) rfl (fun K hK=> ?_) (AllReadyH.cons (i:=12) (o:=⟨some 46,_,_,_,_,_⟩) rfl (fun K hK=> ?_) AllReadyH.nil)
       ·refine AF rfl (.tmp 34) (.tmp 39) 54 rfl w8.heap.size 26 i0 _ 3 56 Tryz.underlying54 ef.o.1 ef.o.2.1 ef.o.2.2.1 ef.o.2.2.2 rfl (by decide) (.slice AL q cL) _ _ rfl HT.o.r ⟨nr,0,none⟩ 1 1 [.bool bb,.slice A1 n1 k1,.slice A2 n2 k2] rfl rfl (World.news_of_block HB.o) Es (by unfold maxLen;omega) (by omega) HT.o.e.size ?_
        intro v6 w6 fy eb;have hT:=HT.o.row eb fy;refine hK.out _ _ ?_ (fun hHeld=> ?_)
        ·exact hT.e
        clear hK K;try simp only[pu]
        have HT:=J hT;clear hT;refine wpAnyH_ready (rs:=[12]) (by kernel_rfl) (by simp) ?_
        refine AllReadyH.cons (i:=12) (o:=⟨some 46,_,_,_,_,_⟩) rfl (fun K hK=> ?_) AllReadyH.nil;go_simp;try go_wp2_with fail
        refine hK.out _ _ ?_ (fun hHeld=> ?_)
        ·first|exact HT.o.e.alloc _|exact(HT.o.e.alloc _).drew
        clear hK K;try simp only[pu]
        obtain⟨nt,dI⟩:∃nt,w6.heap.size=nt:=⟨_,rfl⟩;have hz:=Blk.new w6 3 #[.int .i64 (y.st:Int)];rw[dI]at hz ⊢;refine atH (fun W=>TR w8 wr W v6 (.slice AM q cM) (q+1) q (jU++[.bool bb,.slice A1 n1 k1,.slice A2 n2 k2]) (L.map fun x=>Value.int .i64 (x.st:Int))/\Blk W nt 3 #[.int .i64 (y.st:Int)]) ⟨HT.o.ext ((Ext.refl _).alloc _),hz⟩ hHeld ?_
        clear hHeld hz dI;rintro W3 ⟨hT,hC⟩ hHeld;have HT:=J hT;have HC:=J hC;clear hT hC;refine wpAnyH_ready (rs:=[13]) (by kernel_rfl) (by simp) ?_
        refine AllReadyH.cons (i:=13) (o:=⟨some 47,_,_,_,_,_⟩) rfl (fun K hK=> ?_) AllReadyH.nil;refine AF rfl (.tmp 41) (.tmp 46) 41 rfl w8.heap.size 3 j0 _ 1 8 Tryz.underlying41 ee.o.1 ee.o.2.1 ee.o.2.2.1 ee.o.2.2.2 rfl (by decide) (.slice AM q cM) _ _ rfl HT.o.s ⟨nt,0,none⟩ 1 1 [.int .i64 (y.st:Int)] rfl rfl (World.news_of_block HC.o) Ev (by unfold maxLen;omega) (by omega) HT.o.e.size ?_
        intro v7 ur jm dC;have hT:=HT.o.col dC jm;refine hK.out _ _ ?_ (fun hHeld=> ?_)
        ·exact hT.e
        clear hK K;try simp only[pu]
        have HT:=J hT;clear hT;refine' tk 14 8 rfl (by kernel_rfl) (fun _ _ _ h=>h) (by rfl) hHeld ?_ ?_
        rotate_left
        ·(intro _ _;go_simp;(try with_reducible rfl))
        try simp only[pu]
        refine' tk 15 9 rfl (by kernel_rfl) (fun _ _ _ h=>h) (by rfl) hHeld ?_ ?_
        rotate_left
        ·(intro _ _;go_simp;(try with_reducible rfl))
        try simp only[pu]
        refine wpAnyH_done (by kernel_rfl) ?_ _
        clear hHeld;go_wp2_with fail;go_meet;have fW:=Bp.tr (by rw[lm.o];exact HT.o) pm.o (uQ.o.ext xk.o);have ii:=Bx.tr (x:=y) (by rw[lm.o];exact HT.o);rw[<-kh.o]at fW ii;exact⟨fW,ii,HT.o.e⟩
       ·go_simp;try go_wp2_with fail
        refine hK.out _ _ ?_ (fun hHeld=> ?_)
        ·first|exact HT.o.e.alloc _|exact(HT.o.e.alloc _).drew
        clear hK K;try simp only[pu]
        obtain⟨nt,dI⟩:∃nt,W1.heap.size=nt:=⟨_,rfl⟩;have hz:=Blk.new W1 3 #[.int .i64 (y.st:Int)];rw[dI]at hz ⊢;refine atH (fun W=>TR w8 wr W (.slice AL q cL) (.slice AM q cM) q q jU (L.map fun x=>Value.int .i64 (x.st:Int))/\Blk W nr 26 #[.bool bb,.slice A1 n1 k1,.slice A2 n2 k2]/\Blk W nt 3 #[.int .i64 (y.st:Int)]) ⟨HT.o.ext ((Ext.refl _).alloc _),HB.o.alloc _,hz⟩ hHeld ?_
        clear hHeld hz dI;rintro W2 ⟨hT,hB,hC⟩ hHeld;have HT:=J hT;have HB:=J hB;have HC:=J hC;clear hT hB hC;refine wpAnyH_ready (rs:=[6]) (by kernel_rfl) (by simp) ?_
        refine AllReadyH.cons (i:=6) (o:=⟨some 40,_,_,_,_,_⟩) rfl (fun K hK=> ?_) AllReadyH.nil;refine AF rfl (.tmp 34) (.tmp 39) 54 rfl w8.heap.size 26 i0 _ 3 56 Tryz.underlying54 ef.o.1 ef.o.2.1 ef.o.2.2.1 ef.o.2.2.2 rfl (by decide) (.slice AL q cL) _ _ rfl HT.o.r ⟨nr,0,none⟩ 1 1 [.bool bb,.slice A1 n1 k1,.slice A2 n2 k2] rfl rfl (World.news_of_block HB.o) Es (by unfold maxLen;omega) (by omega) HT.o.e.size ?_
        intro v6 w6 fy eb;have hT:=HT.o.row eb fy;have hC:=HC.o.past HT.o.r (by decide) eb;refine hK.out _ _ ?_ (fun hHeld=> ?_)
        ·exact hT.e
        clear hK K;try simp only[pu]
        have HT:=J hT;have HC:=J hC;clear hT hC;refine wpAnyH_ready (rs:=[13]) (by kernel_rfl) (by simp) ?_
        refine AllReadyH.cons (i:=13) (o:=⟨some 47,_,_,_,_,_⟩) rfl (fun K hK=> ?_) AllReadyH.nil;refine AF rfl (.tmp 41) (.tmp 46) 41 rfl w8.heap.size 3 j0 _ 1 8 Tryz.underlying41 ee.o.1 ee.o.2.1 ee.o.2.2.1 ee.o.2.2.2 rfl (by decide) (.slice AM q cM) _ _ rfl HT.o.s ⟨nt,0,none⟩ 1 1 [.int .i64 (y.st:Int)] rfl rfl (World.news_of_block HC.o) Ev (by unfold maxLen;omega) (by omega) HT.o.e.size ?_
        intro v7 ur jm dC;have hT:=HT.o.col dC jm;refine hK.out _ _ ?_ (fun hHeld=> ?_)
        ·exact hT.e
        clear hK K;try simp only[pu]
        have HT:=J hT;clear hT;refine' tk 14 8 rfl (by kernel_rfl) (fun _ _ _ h=>h) (by rfl) hHeld ?_ ?_
        rotate_left
        ·(intro _ _;go_simp;(try with_reducible rfl))
        try simp only[pu]
        refine' tk 15 9 rfl (by kernel_rfl) (fun _ _ _ h=>h) (by rfl) hHeld ?_ ?_
        rotate_left
        ·(intro _ _;go_simp;(try with_reducible rfl))
        try simp only[pu]
        refine wpAnyH_done (by kernel_rfl) ?_ _
        clear hHeld;go_wp2_with fail;go_meet;have fW:=Bp.tr (by rw[lm.o];exact HT.o) pm.o (uQ.o.ext xk.o);have ii:=Bx.tr (x:=y) (by rw[lm.o];exact HT.o);rw[<-kh.o]at fW ii;exact⟨fW,ii,HT.o.e⟩
      ·go_simp;try go_wp2_with fail
       refine hK.out _ _ ?_ (fun hHeld=> ?_)
       ·first|exact HT.o.e.alloc _|exact(HT.o.e.alloc _).drew
       clear hK K;try simp only[pu]
       obtain⟨nt,dI⟩:∃nt,W0.heap.size=nt:=⟨_,rfl⟩;have hz:=Blk.new W0 3 #[.int .i64 (y.st:Int)];rw[dI]at hz ⊢;refine atH (fun W=>TR w8 wr W (.slice AL q cL) (.slice AM q cM) q q jU (L.map fun x=>Value.int .i64 (x.st:Int))/\Blk W nt 3 #[.int .i64 (y.st:Int)]) ⟨HT.o.ext ((Ext.refl _).alloc _),hz⟩ hHeld ?_
       clear hHeld hz dI;rintro W1 ⟨hT,hC⟩ hHeld;have HT:=J hT;have HC:=J hC;clear hT hC;refine wpAnyH_ready (rs:=[5]) (by kernel_rfl) (by simp) ?_
       refine AllReadyH.cons (i:=5) (o:=⟨some 39,_,_,_,_,_⟩) rfl (fun K hK=> ?_) AllReadyH.nil;go_simp;try go_wp2_with fail
       refine hK.out _ _ ?_ (fun hHeld=> ?_)
       ·first|exact HT.o.e.alloc _|exact(HT.o.e.alloc _).drew
       clear hK K;try simp only[pu]
       obtain⟨nr,mi⟩:∃nr,W1.heap.size=nr:=⟨_,rfl⟩;have hz:=Blk.new W1 26 #[.bool bb,.slice A1 n1 k1,.slice A2 n2 k2];rw[mi]at hz ⊢;refine atH (fun W=>TR w8 wr W (.slice AL q cL) (.slice AM q cM) q q jU (L.map fun x=>Value.int .i64 (x.st:Int))/\Blk W nr 26 #[.bool bb,.slice A1 n1 k1,.slice A2 n2 k2]/\Blk W nt 3 #[.int .i64 (y.st:Int)]) ⟨HT.o.ext ((Ext.refl _).alloc _),hz,HC.o.alloc _⟩ hHeld ?_
       clear hHeld hz mi;rintro W2 ⟨hT,hB,hC⟩ hHeld;have HT:=J hT;have HB:=J hB;have HC:=J hC;clear hT hB hC;refine wpAnyH_ready (rs:=[6]) (by kernel_rfl) (by simp) ?_
       refine AllReadyH.cons (i:=6) (o:=⟨some 40,_,_,_,_,_⟩) rfl (fun K hK=> ?_) AllReadyH.nil;refine AF rfl (.tmp 34) (.tmp 39) 54 rfl w8.heap.size 26 i0 _ 3 56 Tryz.underlying54 ef.o.1 ef.o.2.1 ef.o.2.2.1 ef.o.2.2.2 rfl (by decide) (.slice AL q cL) _ _ rfl HT.o.r ⟨nr,0,none⟩ 1 1 [.bool bb,.slice A1 n1 k1,.slice A2 n2 k2] rfl rfl (World.news_of_block HB.o) Es (by unfold maxLen;omega) (by omega) HT.o.e.size ?_
       intro v6 w6 fy eb;have hT:=HT.o.row eb fy;have hC:=HC.o.past HT.o.r (by decide) eb;refine hK.out _ _ ?_ (fun hHeld=> ?_)
       ·exact hT.e
       clear hK K;try simp only[pu]
       have HT:=J hT;have HC:=J hC;clear hT hC;refine wpAnyH_ready (rs:=[13]) (by kernel_rfl) (by simp) ?_
       refine AllReadyH.cons (i:=13) (o:=⟨some 47,_,_,_,_,_⟩) rfl (fun K hK=> ?_) AllReadyH.nil;refine AF rfl (.tmp 41) (.tmp 46) 41 rfl w8.heap.size 3 j0 _ 1 8 Tryz.underlying41 ee.o.1 ee.o.2.1 ee.o.2.2.1 ee.o.2.2.2 rfl (by decide) (.slice AM q cM) _ _ rfl HT.o.s ⟨nt,0,none⟩ 1 1 [.int .i64 (y.st:Int)] rfl rfl (World.news_of_block HC.o) Ev (by unfold maxLen;omega) (by omega) HT.o.e.size ?_
       intro v7 ur jm dC;have hT:=HT.o.col dC jm;refine hK.out _ _ ?_ (fun hHeld=> ?_)
       ·exact hT.e
       clear hK K;try simp only[pu]
       have HT:=J hT;clear hT;refine' tk 14 8 rfl (by kernel_rfl) (fun _ _ _ h=>h) (by rfl) hHeld ?_ ?_
       rotate_left
       ·(intro _ _;go_simp;(try with_reducible rfl))
       try simp only[pu]
       refine' tk 15 9 rfl (by kernel_rfl) (fun _ _ _ h=>h) (by rfl) hHeld ?_ ?_
       rotate_left
       ·(intro _ _;go_simp;(try with_reducible rfl))
       try simp only[pu]
       refine wpAnyH_done (by kernel_rfl) ?_ _
       clear hHeld;go_wp2_with fail;go_meet;have fW:=Bp.tr (by rw[lm.o];exact HT.o) pm.o (uQ.o.ext xk.o);have ii:=Bx.tr (x:=y) (by rw[lm.o];exact HT.o);rw[<-kh.o]at fW ii;exact⟨fW,ii,HT.o.e⟩
     case rest=>
     obtain⟨vX,vW,ah⟩:=hcut;have pN:=gL.o _ ah;have W5:=J vX;have WZ:=J vW;have aR:=J ah;have um:Hid (Hi L2=(Hi L || ((y.st:Int) == 2))):=J (by rw[kh.o,ST];congr 1;rw[qaM];simp only[beq_iff_eq];omega);have Xi:Hid (Gs L2=Gs L+if ((y.st:Int) == 1) then 1 else 0):=J (by rw[kh.o,SN];congr 1;simp only[beq_iff_eq];by_cases h:y.st=1<;>simp[h]<;>omega);have kK:=UD L;rw[lm.o]at kK;obtain⟨bl,fd⟩:∃bl,Hi L=bl:=⟨_,rfl⟩;obtain⟨cl,oE⟩:∃cl,Gs L=cl:=⟨_,rfl⟩;rw[fd]at um ⊢;rw[oE]at Xi kK ⊢;have hwc:IntKind.i64.wrap ((cl:Int)+1)=(cl:Int)+1:=IntWalk.i64_in _ (by omega);obtain⟨c2,df⟩:∃c2,((y.st:Int) == 2)=c2:=⟨_,rfl⟩;obtain⟨c1,hc1⟩:∃c1,((y.st:Int) == 1)=c1:=⟨_,rfl⟩;rw[df]at um;rw[hc1]at Xi;clear vX vW ah fd oE pO W6 pm nI yz uQ ef ee;rcases bl with _|_<;>rcases c1 with _|_
     all_goals
      go_wp2_with fail;go_roundw
      ·exact⟨q+1,hqm,by go_num,by rw[<-ib.o];exact W5.o,by rw[<-ib.o];exact WZ.o,by rw[<-ib.o,Xi.o];rfl,by rw[<-ib.o,um.o];rfl,aR.o⟩
      ·simp only[intOf];omega
    ·obtain rfl:q=m:=by omega
     have ij:zs.take q=zs:=qaf (by have:=HM.o;omega);rw[ij]at sx ny ⊢;have nJ:Hid ((EL T zs).length=(BN ⟨y0,y1,y2,y3,y4⟩).length):=J (by rw[<-yr.o];unfold EL;rw[qas]);have fq:=J (Tu (fun x hx=>uP.o x hx) zs);have lj:Hid (BB (ns.take (k+1))=T++[Bj ⟨y0,y1,y2,y3,y4⟩ ((EL T zs).getD 0 X2.O) ((EL T zs).getD 1 X2.O)]):=J (by rw[dq.o,yr.o,Q7 gN.o]);generalize EL T zs=L at *;have aF:=J (fun h=>Q9 gN.o nJ.o h);have lY:=J (fun h1 h2 h3=>Q8 gN.o nJ.o h1 h2 h3);rw[<-yr.o,<-HM.o]at lY;have sl:=gN.o;have yx:=J (fun W (hx:Ext wr W)=>Te w8.heap.size W _ sl L nJ.o fq.o _ _ (sx.ext hx) (ny.ext hx));have jV:=J (fun W (hx:Ext wr W) hu hn=>Td w8.heap.size W _ sl L nJ.o fq.o _ (sx.ext hx) hu hn);rw[<-yr.o,<-HM.o]at jV;have HXok:=J (FP ⟨y0,y1,y2,y3,y4⟩ (x:=L.getD 0 X2.O) (y:=L.getD 1 X2.O) (LH fq.o 0) (LH fq.o 1));generalize Bj ⟨y0,y1,y2,y3,y4⟩ (L.getD 0 X2.O) (L.getD 1 X2.O)=X at *;unfold Di at jV;simp only[ndV,bF.o]at yx jV;have iq:=J (dF.o.trans hx);have rl:=J (tI.o.ext hx);have ro:=J (tK.o.ext hx);obtain⟨n0,n1,n2,n3,n4⟩:=(lR.o.ext hx).five;have HNR:=J (lR.o.ext hx);obtain⟨i0,hi,aD,hz1,bu⟩:=info_parts JS;obtain⟨j0,hj,dE,aT,bQ⟩:=info_parts JU;have ef:=J (And.intro hi (And.intro aD (And.intro hz1 bu)));have ee:=J (And.intro hj (And.intro dE (And.intro aT bQ)));obtain⟨bl,fd⟩:∃bl,Hi L=bl:=⟨_,rfl⟩;obtain⟨cl,oE⟩:∃cl,Gs L=cl:=⟨_,rfl⟩;obtain⟨ub,uw⟩:∃ub,DS ⟨y0,y1,y2,y3,y4⟩ L=ub:=⟨_,rfl⟩;rw[fd]at aF lY ⊢;rw[oE]at lY jV ⊢;rw[uw]at aF lY yx jV;have WY:=J hlt;clear sx ny hx nx ij sl hi aD hz1 bu hj dE aT bQ fd oE uw dF tI tK lR hlt kq dq uP Zu;go_upto_region 19 with fail;obtain⟨vb,zm⟩:∃vb,wr.heap.size=vb:=⟨_,rfl⟩;have mq:=Blk.new wr 26 #[.bool false,.slice none 0 0,.slice none 0 0];have dt:=(Ext.refl wr).alloc (.cells #[.bool false,.slice none 0 0,.slice none 0 0] 26);rw[zm]at mq ⊢;generalize wr.alloc (.cells #[.bool false,.slice none 0 0,.slice none 0 0] 26)=w9 at *;have yG:=J mq;have eV:=J dt;have HVB:=J zm;obtain⟨q0,q1,q2,f0,f1,f2,rM⟩:=mq.three;have n0:=dt.keep n0;have n1:=dt.keep n1;have n2:=dt.keep n2;have n3:=dt.keep n3;have n4:=dt.keep n4;clear mq dt zm
     go_cut [71] from 65 to 71 (fun s71 wx=>s71= .bool (bl || ub)/\Ext w9 wx)
     case first=>
      rcases bl with _|_
      ·go_wp2_with fail;refine(yx.o w9 eV.o).mono ?_
       rintro e eM ⟨rfl,bg⟩;have eW:=J bg;clear bg;go_wp2_with fail;go_meet;exact⟨rfl,eW.o⟩
      ·go_wp2_with fail;go_meet;exact⟨rfl,Ext.refl _⟩
     case rest=>
     obtain⟨rfl,bg⟩:=hcut;rename_i HK;refine HK _ _ ?_
     clear HK yx q0 q1 q2 f0 f1 f2 rM;have pC:=J (yG.o.ext bg);have eW:=J (eV.o.trans bg);obtain⟨q0,q1,q2,f0,f1,f2,rM⟩:=pC.o.three;have n0:=bg.keep n0;have n1:=bg.keep n1;have n2:=bg.keep n2;have n3:=bg.keep n3;have n4:=bg.keep n4;clear bg yG eV;generalize wc=wd at *;obtain⟨tb,qP⟩:∃tb,(bl || ub)=tb:=⟨_,rfl⟩;rw[qP]
     go_cut [15,16,17] from 72 to 88 (fun s15 _ _ wx=>s15= .int .i64 (X.st:Int)/\∃(f:Bool) (G:Option Addr) (gn gj:Nat) (Y:Option Addr) (yn yj:Nat),Blk wx vb 26 #[.bool f,.slice G gn gj,.slice Y yn yj]/\Ag 0 wx (.agg #[.bool f,.slice G gn gj,.slice Y yn yj]) X.p X.q/\Ext wr wx)
     case first=>
      rcases tb with _|_
      ·have fd:bl=false:=by cases bl<;>simp at qP ⊢
       have uw:ub=false:=by cases ub<;>simp at qP ⊢
       have aS:=J (fun W=>Bv W y0);rw[pc.o,<-HM.o]at aS;have Zr:=J (lY.o fd uw);have HVP:=J (fun W hx=>jV.o W hx uw);clear qP fd uw lY aF;by_cases hcn:cl=q
       ·have YX:=J (fun W hx=>HVP.o W hx hcn);subst hcn;go_wp2_with fail;refine(aS.o _).mono ?_
        rintro e eR ⟨rfl,rfl⟩;go_wp2_with fail;refine(YX.o _ eW.o).mono ?_
        rintro e eR ⟨v11,bv,P,Q,rfl,dy,bI,hpl,sc,iF⟩;obtain⟨f5,g5,G5,j5,y5,Y5,z5,rfl⟩:=dy.shape;have kV:=J (pC.o.ext bI);have Ww:=J (eW.o.trans bI);have qq:=J dy;have WO:=J iF;clear dy bI iF YX aS Zr q0 q1 q2 f0 f1 f2 rM n0 n1 n2 n3 n4;go_upto_region 23 with fail;have jh:=Blk.new eR 26 #[.bool f5,.slice G5 g5 j5,.slice Y5 y5 z5];have dm:=(Ext.refl eR).alloc (.cells #[.bool f5,.slice G5 g5 j5,.slice Y5 y5 z5] 26);obtain⟨xb,fF⟩:∃xb,eR.heap.size=xb:=⟨_,rfl⟩;rw[fF]at jh ⊢;have hvx:vb≠xb:=by have:=kV.o.lt;omega
        generalize eR.alloc (.cells #[.bool f5,.slice G5 g5 j5,.slice Y5 y5 z5] 26)=w12 at *;have eL:=J (kV.o.ext dm);have tH:=J (Ww.o.trans dm);have YS:=J (qq.o.ext dm);obtain⟨q0,q1,q2,f0,f1,f2,rM⟩:=eL.o.three;obtain⟨p0,p1,p2,e0,e1,e2,u9⟩:=jh.three;have l9:=J jh;clear jh dm fF;rcases bv with _|_
        ·go_wp2_with fail;go_meet;rcases WO.o with ⟨h,_⟩|⟨_,rfl⟩
         ·cases h
         ·exact⟨rfl,_,_,_,_,_,_,_,eL.o,Ag.zero _ _,tH.o⟩
        ·have lk:=J (Ni w12 _ P Q YS.o.arr hpl sc);have YV:Hid (X=AN P Q):=J (by rcases WO.o with ⟨_,h⟩|⟨h,_⟩;exact h;cases h);obtain⟨bs,uK⟩:∃bs,decide (max (AT P.natAbs) (AT Q)<=1024)=bs:=⟨_,rfl⟩;rw[uK]at lk;have dj:Hid (X=if bs then ⟨1,P,Q⟩ else X2.O):=J (by rw[YV.o];unfold AN;rw[<-uK];simp);clear hpl sc uK WO YV q0 q1 q2 f0 f1 f2 e0 e1 e2;rcases bs with _|_
         ·go_wp2_with fail;refine lk.o.mono ?_
          rintro e w13 ⟨rfl,cN⟩;have pB:=J (eL.o.ext cN);have tG:=J (tH.o.trans cN);clear cN p0 p1 p2;go_wp2_with fail;go_meet;rw[dj.o];exact⟨rfl,_,_,_,_,_,_,_,pB.o,Ag.zero _ _,tG.o⟩
         ·go_wp2_with fail;refine lk.o.mono ?_
          rintro e w13 ⟨rfl,cN⟩;have pB:=J (eL.o.ext cN);have tG:=J (tH.o.trans cN);have Wm:=J (YS.o.ext cN);clear p0 p1 p2 u9;obtain⟨p0,p1,p2,e0,e1,e2,u9⟩:=(l9.o.ext cN).three;obtain⟨q0,q1,q2,f0,f1,f2,rM⟩:=pB.o.three;clear cN;go_wp2_with fail;go_meet;rw[dj.o];exact⟨rfl,_,_,_,_,_,_,_,pB.o.put3 _ _ _,Wm.o.ku (KU.three pB.o _ _ _),tG.o.three (by rw[<-HVB.o];exact qab _) _ _ _⟩
       ·have hcn2:((cl:Int) == (q:Int))=false:=beq_eq_false_iff_ne.2 (by omega);go_wp2_with fail;refine(aS.o _).mono ?_
        rintro e eR ⟨rfl,rfl⟩;go_wp2_with fail;go_meet;rw[Zr.o hcn];exact⟨rfl,_,_,_,_,_,_,_,pC.o,Ag.zero _ _,eW.o⟩
      ·have hXU:=aF.o (by simpa using qP);clear qP;go_wp2_with fail;go_meet;rw[hXU];exact⟨rfl,_,_,_,_,_,_,_,pC.o,Ag.zero _ _,eW.o⟩
     case rest=>
     obtain⟨rfl,f,G,gn,gj,Y,yn,yj,Yj,X6,xR⟩:=hcut;rename_i HK K0 x0 x1 x2 x3 x4 wcx;refine HK _ _ ?_
     clear HK x0 x1 x2 x3 x4 jV lY aF pc HNR pC q0 q1 q2 f0 f1 f2 rM n0 n1 n2 n3 n4;generalize wc=wd at *;obtain⟨jU,iG,kB⟩:=rl.o.ext xR;have qg:=ro.o.ext xR;unfold Bx at qg;rw[jv.o]at iG qg;have hT:TR w wd wd (.slice AV k cV) (.slice AS k cS) k k jU (T.map fun x=>Value.int .i64 (x.st:Int)):=⟨iq.o.trans xR,KU.refl _,iG,qg⟩;have HT:=J hT;have pm:=J kB;have xC:=J X6;have oZ:Hid (∃st:Int,(X.st:Int)=st):=J ⟨_,rfl⟩;obtain⟨st,hst⟩:=oZ.o;rw[hst];have WF:=J hst;obtain⟨q0,q1,q2,f0,f1,f2,rM⟩:=Yj.three;clear hT iG qg kB X6 xR hst rl ro Yj;go_wp2_with (at_builtin;go_must (first
      |(refine wpList_append_own _ rfl _ _ 54 rfl w.heap.size 26 i0 _ 3 56 Tryz.underlying54 ef.o.1 ef.o.2.1 ef.o.2.2.1 ef.o.2.2.2 rfl (by decide) _ k jU rfl (HT.o.ext ((Ext.refl wd).alloc _)).r ⟨wd.heap.size,0,none⟩ 1 1 [.bool f,.slice G gn gj,.slice Y yn yj] rfl rfl (World.news_of_block (Blk.new wd _ _)) Es (by unfold maxLen;omega) (by omega) (HT.o.ext ((Ext.refl wd).alloc _)).e.size ?_;intro v6 w6 fy eb _;have tJ:=J ((HT.o.ext ((Ext.refl wd).alloc _)).row eb fy);clear fy eb)
      |(refine wpList_append_own _ rfl _ _ 41 rfl w.heap.size 3 j0 _ 1 8 Tryz.underlying41 ee.o.1 ee.o.2.1 ee.o.2.2.1 ee.o.2.2.2 rfl (by decide) _ k _ rfl (tJ.o.ext ((Ext.refl w6).alloc _)).s ⟨w6.heap.size,0,none⟩ 1 1 [.int .i64 st] rfl rfl (World.news_of_block (Blk.new w6 _ _)) Ev (by unfold maxLen;omega) (by omega) (tJ.o.ext ((Ext.refl w6).alloc _)).e.size ?_;intro v7 w7 jm dC _;have nF:=J ((tJ.o.ext ((Ext.refl w6).alloc _)).col dC jm);clear jm dC)))
     go_roundw
     ·exact⟨k+1,WY.o,by go_num,by rw[lj.o];exact Bp.tr (by rw[jv.o];exact nF.o) pm.o xC.o,by rw[lj.o];exact Bx.tr (x:=X) (by rw[jv.o,WF.o];exact nF.o),nF.o.e⟩
     ·simp only[intOf];omega
  ·obtain rfl:k=n:=by omega
   rw[show ns.take k=ns from qaf (by rw[<-iv.o];exact qab _)]at jH iB;go_wp2_with fail;go_ret2;exact⟨_,_,rfl,jH,iB,hx⟩
theorem NB(B g:Nat)(w:World)(ns:List Nd)(rv:Value)(h:GrR B g w ns rv)(i:Int)(hi:¬(0<=i/\i<(ns.length:Int))):
  Calls Tryz.prog 30 #[.pointer (some ⟨g,0,none⟩),.int .i64 i] w (B4 X2.O w):=by
 have HH:=J (fun W hx=>LG B g W ns rv (h.keep (w':=W) hx) i);rw[decide_eq_false hi]at HH;clear h hi;unfold B4;have aj:=J (Blk.new w 26 #[.bool false,.slice none 0 0,.slice none 0 0]);have bP:=J ((Ext.refl w).alloc (.cells #[.bool false,.slice none 0 0,.slice none 0 0] 26));obtain⟨w1,aT⟩:∃w1,w1=w.alloc (.cells #[.bool false,.slice none 0 0,.slice none 0 0] 26):=⟨_,rfl⟩;rw[<-aT]at aj bP;go_enter Tryz.func30,Tryz.ntmps30;go_upto_region 1 with fail;rw[<-aT];clear aT;go_wp2_with fail;refine(HH.o w1 bP.o).mono ?_
 rintro e w2 ⟨rfl,hx⟩;have HX:=J (bP.o.trans hx);have HB:=J (aj.o.ext hx);clear hx;have q0:=HB.o.three;go_wp2_with fail;obtain⟨ai,ac,hr2⟩:=Aj HB.o (.bool false) (.slice none 0 0) (.slice none 0 0);refine bodyPost_ret (v:= .tuple #[.agg #[.bool false,.slice none 0 0,.slice none 0 0],.int .i64 0]) (by simp[results,Tryz.results30,go_sem,ai,ac,hr2]) rfl ?_
 exact⟨_,rfl,Ag.zero _ _,HX.o.three (qab _) _ _ _⟩
theorem PA(B g:Nat)(w:World)(ns:List Nd)(rv:Value)(h:GrR B g w ns rv)(i:Nat)(hi:i<ns.length):
  Calls Tryz.prog 30 #[.pointer (some ⟨g,0,none⟩),.int .i64 (i:Int)] w (B4 ((BB ns).getD i X2.O) w):=by
 have HH:=J (fun W hx=>LG B g W ns rv (h.keep (w':=W) hx) (i:Int));rw[decide_eq_true (show (0:Int)<=(i:Int)/\(i:Int)<(ns.length:Int) by omega)]at HH;have nE:=J (fun W hx=>Jm B g W ns rv (h.keep (w':=W) hx));unfold Fi at nE;have HI:=J hi;have jv:=J (CZ ns);clear h;generalize hX:(BB ns).getD i X2.O=X at *;have ju:=J hX;clear hX;unfold B4;have aj:=J (Blk.new w 26 #[.bool false,.slice none 0 0,.slice none 0 0]);have bP:=J ((Ext.refl w).alloc (.cells #[.bool false,.slice none 0 0,.slice none 0 0] 26));obtain⟨w1,aT⟩:∃w1,w1=w.alloc (.cells #[.bool false,.slice none 0 0,.slice none 0 0] 26):=⟨_,rfl⟩;rw[<-aT]at aj bP;go_enter Tryz.func30,Tryz.ntmps30;go_upto_region 1 with fail;rw[<-aT];clear aT;go_wp2_with fail;refine(HH.o w1 bP.o).mono ?_
 rintro e w2 ⟨rfl,hx⟩;have HX:=J (bP.o.trans hx);have HB:=J (aj.o.ext hx);clear hx HH;go_wp2_with fail;have np:=HB.o.lt;refine(nE.o w2 HX.o).mono ?_
 rintro e w3 ⟨vv,sv,rfl,jH,iB,hx⟩;have HX:=J (HX.o.trans hx);have HB:=J (HB.o.ext hx);obtain⟨gv,cv,rfl,hgv1,wq,bb,A1,n1,k1,A2,n2,k2,sb,p9⟩:=jH.at (i:=i) (by rw[jv.o];exact HI.o);obtain⟨gs,cs,rfl,hgs1,sM,dY⟩:=iB.at (i:=i) (by rw[jv.o];exact HI.o);rw[jv.o];rw[ju.o]at p9 dY;have hii:(i:Int)<(ns.length:Int):=by omega
 have aG:(0:Int)<=(i:Int):=by omega
 have R9:=J p9;obtain⟨r0,r1,r2⟩:=sb;obtain⟨st,hst⟩:∃st:Int,(X.st:Int)=st:=⟨_,rfl⟩;rw[hst]at dY;have bF:=J hst;have q0:=HB.o.three;have vM:¬gs=w.heap.size:=by omega
 have hne2:¬w.heap.size=gs:=by omega
 have hne3:¬gv=w.heap.size:=by omega
 have sp:¬w.heap.size=gv:=by omega
 clear hx p9 hst nE jH iB hi;go_upto_region 4 with fail;go_region
 all_goals
  go_wp2_with fail;obtain⟨ai,ac,hr2⟩:=Aj HB.o (.bool bb) (.slice A1 n1 k1) (.slice A2 n2 k2);refine bodyPost_ret (v:= .tuple #[.agg #[.bool bb,.slice A1 n1 k1,.slice A2 n2 k2],.int .i64 st]) (by simp[results,Tryz.results30,go_sem,ai,ac,hr2]) rfl ?_
  exact⟨_,by rw[bF.o],(R9.o.ku (KU.three HB.o _ _ _)).ku (KU.of_ext (Ext.refl _).drew),(HX.o.three (qab _) _ _ _).drew⟩
theorem NC(B g:Nat)(w:World)(ns:List Nd)(rv:Value)(h:GrR B g w ns rv)(i:Int):
  Calls Tryz.prog 30 #[.pointer (some ⟨g,0,none⟩),.int .i64 i] w (B4 (if 0<=i then (BB ns).getD i.toNat X2.O else X2.O) w):=by
 by_cases hi:0<=i/\i<(ns.length:Int)
 ·obtain⟨k,rfl⟩:∃k:Nat,i=(k:Int):=⟨i.toNat,by omega⟩;rw[if_pos hi.1,qaq];exact PA B g w ns rv h k (by omega)
 ·have he:(if 0<=i then (BB ns).getD i.toNat X2.O else X2.O)=X2.O:=by
   split
   ·rw[qaa,qav (by rw[CZ];omega)];rfl
   ·rfl
  rw[he];exact NB B g w ns rv h i hi
theorem Nk(B g b:Nat)(w:World)(ns:List Nd)(nv:Value)(h:GrP B g b w ns nv)(hm:B5 w)(i:Int):
  Calls Tryz.prog 27 #[.pointer (some ⟨g,0,none⟩),.int .i64 i] w (B4 (if 0<=i then (BB ns).getD i.toNat X2.O else X2.O) w):=by
 by_cases hi:0<=i/\i<(ns.length:Int)
 ·obtain⟨k,rfl⟩:∃k:Nat,i=(k:Int):=⟨i.toNat,by omega⟩;rw[if_pos hi.1,qaq];exact Hn B g b w ns nv h hm k (by omega)
 ·have he:(if 0<=i then (BB ns).getD i.toNat X2.O else X2.O)=X2.O:=by
   split
   ·rw[qaa,qav (by rw[CZ];omega)];rfl
   ·rfl
  rw[he];exact Nj B g b w ns nv h i (by omega)
end Big
end Go.Proofs.YtkoaogkknnelaaaGreatDoor
