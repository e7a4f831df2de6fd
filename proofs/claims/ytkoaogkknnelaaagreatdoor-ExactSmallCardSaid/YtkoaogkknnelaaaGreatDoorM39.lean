import Derived.Test.YtkoaogkknnelaaaGreatDoorM38
set_option linter.unusedVariables false
set_option linter.unusedSimpArgs false
set_option maxHeartbeats 16000000
set_option maxRecDepth 100000
namespace Go.Proofs.YtkoaogkknnelaaaGreatDoor
namespace Big
open Lib (hid)
open Go.RowKit
theorem IM{L:List X2}(h:L.length=2):∃a b,L=[a,b]:=by
 rcases L with _|⟨a,_|⟨b,_|⟨c,L⟩⟩⟩<;>simp at h
 exact⟨a,b,rfl⟩
def DJ(x:Nd)(L:List X2):Bool:=
 decide ((x.kind=9/\(L.getD 1 X2.O).st=1/\(L.getD 1 X2.O).p=0)\/(x.kind=10/\x.n<0/\(L.getD 0 X2.O).st=1/\(L.getD 0 X2.O).p=0)\/(x.kind=11/\(L.getD 0 X2.O).st=1/\(L.getD 0 X2.O).p<0)\/(x.kind=13/\(L.getD 0 X2.O).st=1/\(L.getD 0 X2.O).p<=0))
theorem Kd{k:Nat}{t:Tx}(ho:JW k t)(L:List X2):DJ ⟨(k:Int),0,0,0,t⟩ L=false:=by
 have hk:1<=k/\k<=4:=by rcases ho with ⟨h,_⟩|⟨h,_⟩|⟨h,_⟩<;>omega
 unfold DJ;rw[decide_eq_false_iff_not];simp only;omega
theorem TK(y:X2):Gd [y]=if y.st=1 then 1 else 0:=by
 unfold Gd;by_cases h:y.st=1
 ·rw[List.filter_cons_of_pos (by simpa using h),if_pos h];rfl
 ·rw[List.filter_cons_of_neg (by simpa using h),if_neg h];rfl
theorem UZ(y z:X2):Gd [y,z]=(if y.st=1 then 1 else 0)+if z.st=1 then 1 else 0:=by
 have h1:=TK z;unfold Gd at *;by_cases h:y.st=1
 ·rw[List.filter_cons_of_pos (by simpa using h),if_pos h,List.length_cons,h1];omega
 ·rw[List.filter_cons_of_neg (by simpa using h),if_neg h,h1];omega
theorem U1(y:X2):GT [y]=decide (y.st=2):=by
 unfold GT;rw[Bool.eq_iff_iff];simp
theorem U0(y z:X2):GT [y,z]=decide (y.st=2\/z.st=2):=by
 unfold GT;rw[Bool.eq_iff_iff];simp
theorem BO.one{B:Nat}{w:World}{v:Value}{y:X2}(h:BO B w v [y]):∃g c b A n k A' n' k',v= .slice (some ⟨g,0,none⟩) 1 c/\DC w g 0 b A n k A' n' k'/\Ag 0 w (.agg #[.bool b,.slice A n k,.slice A' n' k']) y.p y.q:=by
 obtain⟨g,c,hv,_,_,b,A,n,k,A',n',k',h1,h2⟩:=h.at (i:=0) (by simp);exact⟨g,c,b,A,n,k,A',n',k',hv,by simpa using h1,by simpa using h2⟩
theorem BO.two{B:Nat}{w:World}{v:Value}{y z:X2}(h:BO B w v [y,z]):∃g c b A n k A' n' k' f C i j C' i' j',v= .slice (some ⟨g,0,none⟩) 2 c/\DC w g 0 b A n k A' n' k'/\Ag 0 w (.agg #[.bool b,.slice A n k,.slice A' n' k']) y.p y.q/\DC w g 3 f C i j C' i' j'/\Ag 0 w (.agg #[.bool f,.slice C i j,.slice C' i' j']) z.p z.q:=by
 obtain⟨g,c,hv,_,_,b,A,n,k,A',n',k',h1,h2⟩:=h.at (i:=0) (by simp);obtain⟨g2,c2,hv2,_,_,f,C,i,j,C',i',j',h3,h4⟩:=h.at (i:=1) (by simp);rw[hv]at hv2;injection hv2 with e1 _ e2
 injection e1 with e1
 injection e1 with e1
 subst e1;exact⟨g,c,b,A,n,k,A',n',k',f,C,i,j,C',i',j',hv,by simpa using h1,by simpa using h2,by simpa using h3,by simpa using h4⟩
theorem SU(B:Nat)(w:World)(x:Nd){m:Nat}(h:Cw m x)(L:List X2)(hL:L.length=(BF x).length)(az:∀y∈L,y.Ok)(lv sv:Value)(h1:BO B w lv L)(h2:B4 B w sv L):Calls Tryz.prog 86 #[ndV x,lv,sv] w fun e w'=>e= .returned (.bool (DJ x L))/\Ext w w':=by
 rcases h with ⟨k,t,rfl,ho⟩|⟨k,n,j,rfl,ho,hj⟩|⟨k,j,q,rfl,hk,hj,hq⟩
 ·have hk:1<=k/\k<=4:=by rcases ho with ⟨h,_⟩|⟨h,_⟩|⟨h,_⟩<;>omega
  rw[Kd ho];exact M5 w _ _ _ _ _ _ _ (by omega) (by omega) (by omega) (by omega)
 ·have hk:=ho.1;rw[Cs ho]at hL;obtain⟨y,rfl⟩:=List.length_eq_one_iff.1 hL;obtain⟨gl,cl,b,A,n1,k1,A',n',k',rfl,hc,hi⟩:=h1.one;obtain⟨gs,cs,rfl,_,_,el⟩:=h2.at (i:=0) (by simp);have hz:=(az y (by simp)).size;by_cases h10:k=10
  ·subst h10;have hu:DJ ⟨((10:Nat):Int),(j:Int),0,n,[]⟩ [y]=decide (n<0/\y.st=1/\y.p=0):=by
    unfold DJ;rw[decide_eq_decide];simp only[List.getD_cons_zero];omega
   rw[hu];exact UK w _ _ _ _ gl 1 cl gs 1 cs y.st y.p y.q b A n1 k1 A' n' k' hc (by decide) (by decide) el hi hz.1 hz.2
  by_cases h11:k=11
  ·subst h11;have hu:DJ ⟨((11:Nat):Int),(j:Int),0,n,[]⟩ [y]=decide (y.st=1/\y.p<0):=by
    unfold DJ;rw[decide_eq_decide];simp only[List.getD_cons_zero];omega
   rw[hu];exact UJ w _ _ _ _ gl 1 cl gs 1 cs y.st y.p y.q b A n1 k1 A' n' k' hc (by decide) (by decide) el hi hz.1 hz.2
  by_cases h13:k=13
  ·subst h13;have hu:DJ ⟨((13:Nat):Int),(j:Int),0,n,[]⟩ [y]=decide (y.st=1/\y.p<=0):=by
    unfold DJ;rw[decide_eq_decide];simp only[List.getD_cons_zero];omega
   rw[hu];exact UI w _ _ _ _ gl 1 cl gs 1 cs y.st y.p y.q b A n1 k1 A' n' k' hc (by decide) (by decide) el hi hz.1 hz.2
  have hu:DJ ⟨(k:Int),(j:Int),0,n,[]⟩ [y]=false:=by
   unfold DJ;rw[decide_eq_false_iff_not];simp only;omega
  rw[hu];exact M5 w _ _ _ _ _ _ _ (by omega) (by omega) (by omega) (by omega)
 ·rw[BP hk]at hL;obtain⟨y,z,rfl⟩:=IM hL;obtain⟨gl,cl,b,A,n1,k1,A',n',k',f,C,i2,j2,C',i',j',rfl,hc,hi,cW,ax⟩:=h1.two;obtain⟨gs,cs,rfl,_,_,el⟩:=h2.at (i:=1) (by simp);have hz:=(az z (by simp)).size;by_cases h9:k=9
  ·subst h9;have hu:DJ ⟨((9:Nat):Int),(j:Int),(q:Int),0,[]⟩ [y,z]=decide (z.st=1/\z.p=0):=by
    unfold DJ;rw[decide_eq_decide];simp only[List.getD_cons_zero,List.getD_cons_succ];omega
   rw[hu];exact Vc w _ _ _ _ gl 2 cl gs 2 cs z.st z.p z.q f C i2 j2 C' i' j' cW (by decide) (by decide) el ax hz.1 hz.2
  have hu:DJ ⟨(k:Int),(j:Int),(q:Int),0,[]⟩ [y,z]=false:=by
   unfold DJ;rw[decide_eq_false_iff_not];simp only;omega
  rw[hu];exact M5 w _ _ _ _ _ _ _ (by omega) (by omega) (by omega) (by omega)
theorem ST(B:Nat)(w:World)(x:Nd){m:Nat}(h:Cw m x)(L:List X2)(hL:L.length=(BF x).length)(az:∀y∈L,y.Ok)(lv:Value)(h1:BO B w lv L)(hu:DJ x L=false)(hn:Gd L=(BF x).length):Calls Tryz.prog 88 #[ndV x,lv] w (Dc (Bf x (L.getD 0 X2.O) (L.getD 1 X2.O)) w):=by
 rcases h with ⟨k,t,rfl,ho⟩|⟨k,n,j,rfl,ho,hj⟩|⟨k,j,q,rfl,hk,hj,hq⟩
 ·rcases ho with ⟨rfl,h2,_⟩|⟨rfl,h2⟩|⟨rfl|rfl,rfl⟩
  ·have he:Bf ⟨((1:Nat):Int),0,0,0,t⟩ (L.getD 0 X2.O) (L.getD 1 X2.O)=AJ (Hl t) (Hq t):=rfl;rw[he];exact rv1 w _ _ _ t lv h2
  ·exact rv2 w _ (.inl rfl) _ _ _ t lv
  ·exact rv2 w _ (.inr (.inl rfl)) _ _ _ _ lv
  ·exact rv2 w _ (.inr (.inr rfl)) _ _ _ _ lv
 ·have hk:=ho.1;rw[Cs ho]at hL hn;obtain⟨y,rfl⟩:=List.length_eq_one_iff.1 hL;obtain⟨gl,cl,b,A,n1,k1,A',n',k',rfl,hc,hi⟩:=h1.one;have hy:=az y (by simp);have hz:=hy.size;have hst:y.st=1:=by
   rw[TK]at hn;split at hn
   ·assumption
   ·simp at hn
  have fC:=hy.low hst;have he:Bf ⟨(k:Int),(j:Int),0,n,[]⟩ ([y].getD 0 X2.O) ([y].getD 1 X2.O)=unX k n y.p y.q:=by
   unfold Bf;rw[if_neg (by simp only;omega),if_neg (by simp only;omega)];simp only[List.getD_cons_zero];rw[if_neg (by omega),if_pos hst]
  rw[he];unfold DJ at hu;rw[decide_eq_false_iff_not]at hu;simp only[List.getD_cons_zero]at hu;have du:=ho.2.2;rcases(show k=5\/k=10\/k=11\/k=12\/k=13\/k=14\/k=15\/k=16 by omega) with rfl|rfl|rfl|rfl|rfl|rfl|rfl|rfl
  ·exact rv5 w _ _ n _ y.p y.q b A n1 k1 A' n' k' gl 1 cl hc (by decide) hi fC hz.1 hz.2
  ·exact Vg w _ _ n _ y.p y.q b A n1 k1 A' n' k' gl 1 cl hc (by decide) hi fC hz.1 hz.2 du.1 du.2 (by omega)
  ·exact Vf w _ _ n _ y.p y.q b A n1 k1 A' n' k' gl 1 cl hc (by decide) hi fC hz.1 hz.2 (by omega)
  ·exact US w _ (.inl rfl) _ _ n _ y.p y.q b A n1 k1 A' n' k' gl 1 cl hc (by decide) hi fC hz.1 hz.2
  ·exact Ve w _ _ n _ y.p y.q b A n1 k1 A' n' k' gl 1 cl hc (by decide) hi fC hz.1 hz.2 (by omega)
  ·exact UR w _ (.inl rfl) _ _ n _ y.p y.q b A n1 k1 A' n' k' gl 1 cl hc (by decide) hi fC hz.1 hz.2
  ·exact US w _ (.inr rfl) _ _ n _ y.p y.q b A n1 k1 A' n' k' gl 1 cl hc (by decide) hi fC hz.1 hz.2
  ·exact UR w _ (.inr rfl) _ _ n _ y.p y.q b A n1 k1 A' n' k' gl 1 cl hc (by decide) hi fC hz.1 hz.2
 ·rw[BP hk]at hL hn;obtain⟨y,z,rfl⟩:=IM hL;obtain⟨gl,cl,b,A,n1,k1,A',n',k',f,C,i2,j2,C',i',j',rfl,hc,hi,cW,ax⟩:=h1.two;have hy:=az y (by simp);have hz:=az z (by simp);have hst:y.st=1/\z.st=1:=by
   rw[UZ]at hn;simp only[List.length_cons,List.length_nil]at hn;by_cases h1:y.st=1<;>by_cases h2:z.st=1<;>simp[h1,h2]at hn ⊢
  have xh:=hy.low hst.1;have fh:=hz.low hst.2;have nl:=hy.size;have bK:=hz.size;unfold DJ at hu;rw[decide_eq_false_iff_not]at hu;simp only[List.getD_cons_zero,List.getD_cons_succ]at hu;have he:Bf ⟨(k:Int),(j:Int),(q:Int),0,[]⟩ ([y,z].getD 0 X2.O) ([y,z].getD 1 X2.O)=biX k y.p y.q z.p z.q:=by
   unfold Bf;rw[if_neg (by simp only;omega),if_pos (by simp only;omega)];simp only[List.getD_cons_zero,List.getD_cons_succ];rw[if_neg (by omega),if_neg (by omega),if_pos hst]
  rw[he];rcases(show k=6\/k=7\/k=8\/k=9 by omega) with rfl|rfl|rfl|rfl
  ·exact rv6 w _ _ _ _ y.p y.q b A n1 k1 A' n' k' z.p z.q f C i2 j2 C' i' j' gl 2 cl hc (by decide) hi xh nl.1 nl.2 cW ax fh bK.1 bK.2
  ·exact rv7 w _ _ _ _ y.p y.q b A n1 k1 A' n' k' z.p z.q f C i2 j2 C' i' j' gl 2 cl hc (by decide) hi xh nl.1 nl.2 cW ax fh bK.1 bK.2
  ·exact rv8 w _ _ _ _ y.p y.q b A n1 k1 A' n' k' z.p z.q f C i2 j2 C' i' j' gl 2 cl hc (by decide) hi xh nl.1 nl.2 cW ax fh bK.1 bK.2
  ·exact rv9 w _ _ _ _ y.p y.q b A n1 k1 A' n' k' z.p z.q f C i2 j2 C' i' j' gl 2 cl hc (by decide) hi xh nl.1 nl.2 cW ax fh bK.1 bK.2 (by omega)
theorem QK{x:Nd}{m:Nat}(h:Cw m x){L:List X2}(hL:L.length=(BF x).length)(hb:GT L=true\/DJ x L=true):Bf x (L.getD 0 X2.O) (L.getD 1 X2.O)=X2.U:=by
 rcases h with ⟨k,t,rfl,ho⟩|⟨k,n,j,rfl,ho,hj⟩|⟨k,j,q,rfl,hk,hj,hq⟩
 ·rw[CG ho]at hL;rw[Kd ho]at hb;obtain rfl:=List.eq_nil_of_length_eq_zero hL;rcases hb with hb|hb
  ·cases hb
  ·cases hb
 ·have hk:=ho.1;rw[Cs ho]at hL;obtain⟨y,rfl⟩:=List.length_eq_one_iff.1 hL;rw[U1]at hb;unfold DJ at hb;simp only[decide_eq_true_eq,List.getD_cons_zero]at hb;unfold Bf;rw[if_neg (by simp only;omega),if_neg (by simp only;omega)];simp only[List.getD_cons_zero];by_cases h2:y.st=2
  ·rw[if_pos h2]
  ·have h1:y.st=1:=by omega
   rw[if_neg h2,if_pos h1];unfold unX Gv;rcases(show k=10\/k=11\/k=13 by omega) with rfl|rfl|rfl
   ·rw[if_neg (by omega),if_pos (by omega),if_neg (by omega),if_pos (by omega)]
   ·rw[if_neg (by omega),if_neg (by omega),if_pos (by omega),if_pos (by omega)]
   ·rw[if_neg (by omega),if_neg (by omega),if_neg (by omega),if_pos (by omega),if_pos (by omega)]
 ·rw[BP hk]at hL;obtain⟨y,z,rfl⟩:=IM hL;rw[U0]at hb;unfold DJ at hb;simp only[decide_eq_true_eq,List.getD_cons_zero,List.getD_cons_succ]at hb;unfold Bf;rw[if_neg (by simp only;omega),if_pos (by simp only;omega)];simp only[List.getD_cons_zero,List.getD_cons_succ];by_cases h2:y.st=2\/z.st=2
  ·rw[if_pos h2]
  ·rw[if_neg h2,if_pos (by omega)]
theorem QJ{x:Nd}{m:Nat}(h:Cw m x){L:List X2}(hL:L.length=(BF x).length)(hb:GT L=false)(hu:DJ x L=false)(hn:Gd L≠(BF x).length):Bf x (L.getD 0 X2.O) (L.getD 1 X2.O)=X2.O:=by
 rcases h with ⟨k,t,rfl,ho⟩|⟨k,n,j,rfl,ho,hj⟩|⟨k,j,q,rfl,hk,hj,hq⟩
 ·rw[CG ho]at hL hn;obtain rfl:=List.eq_nil_of_length_eq_zero hL;exact absurd rfl hn
 ·have hk:=ho.1;rw[Cs ho]at hL hn;obtain⟨y,rfl⟩:=List.length_eq_one_iff.1 hL;rw[U1,decide_eq_false_iff_not]at hb;rw[TK]at hn;have h1:y.st≠1:=by intro h;rw[if_pos h]at hn;exact hn rfl
  unfold Bf;rw[if_neg (by simp only;omega),if_neg (by simp only;omega)];simp only[List.getD_cons_zero];rw[if_neg hb,if_neg h1]
 ·rw[BP hk]at hL hn;obtain⟨y,z,rfl⟩:=IM hL;rw[U0,decide_eq_false_iff_not]at hb;rw[UZ]at hn;have h1:¬(y.st=1/\z.st=1):=by rintro⟨h1,h2⟩;rw[if_pos h1,if_pos h2]at hn;exact hn rfl
  unfold DJ at hu;simp only[decide_eq_false_iff_not,List.getD_cons_zero,List.getD_cons_succ]at hu;unfold Bf;rw[if_neg (by simp only;omega),if_pos (by simp only;omega)];simp only[List.getD_cons_zero,List.getD_cons_succ];rw[if_neg hb,if_neg (by omega),if_neg h1]
theorem QH{x:Nd}{m:Nat}(h:Cw m x)(T:List X2):Bf x ((Ez T (BF x)).getD 0 X2.O) ((Ez T (BF x)).getD 1 X2.O)=Bf x (T.getD x.a.toNat X2.O) (T.getD x.b.toNat X2.O):=by
 rcases h with ⟨k,t,rfl,ho⟩|⟨k,n,j,rfl,ho,hj⟩|⟨k,j,q,rfl,hk,hj,hq⟩
 ·have hk:1<=k/\k<=4:=by rcases ho with ⟨h,_⟩|⟨h,_⟩|⟨h,_⟩<;>omega
  exact Eu (by simp only;omega) _ _ _ _
 ·have hk:=ho.1;rw[Cs ho];exact Gl (by simp only;omega) (by simp only;omega) _ _ _
 ·rw[BP hk];rfl
theorem Tc{T:List X2}(h:∀x∈T,x.Ok)(zs:List Nat):∀y∈Ez T zs,y.Ok:=by
 intro y hy;unfold Ez at hy;obtain⟨a,_,rfl⟩:=List.mem_map.1 hy;rw[List.getD_eq_getElem?_getD];rcases he:T[a]? with _|z
 ·exact X2.O_ok
 ·exact h z (List.mem_of_getElem? he)
structure TR (w0 wr W:World) (v s:Value) (n1 n2:Nat) (cs ss:List Value):Prop where
 e:Ext w0 W
 k:KU wr W
 r:W.ownsRow w0.heap.size 26 3 v n1 cs
 s:W.ownsRow w0.heap.size 3 1 s n2 ss
theorem TR.ext{w0 wr W W':World}{v s:Value}{n1 n2:Nat}{cs ss:List Value}(h:TR w0 wr W v s n1 n2 cs ss)(hx:Ext W W'):TR w0 wr W' v s n1 n2 cs ss:=
 ⟨h.e.trans hx,h.k.trans (KU.of_ext hx),Aj h.r (fun k _ hk=>hx.block k hk),Aj h.s (fun k _ hk=>hx.block k hk)⟩
theorem TR.row{w0 wr W W':World}{v s v':Value}{n1 n2 n':Nat}{cs ss X3:List Value}(h:TR w0 wr W v s n1 n2 cs ss)(hg:W.grownBy W' v.ownBlock)(ho:W'.ownsRow w0.heap.size 26 3 v' n' X3):TR w0 wr W' v' s n' n2 X3 ss:=
 ⟨h.e.grown hg (AW h.r),h.k.trans (KU.grown hg (Gw h.r (by decide))),ho,Ja h.r h.s (by decide) hg⟩
theorem TR.col{w0 wr W W':World}{v s s':Value}{n1 n2 n':Nat}{cs ss WV:List Value}(h:TR w0 wr W v s n1 n2 cs ss)(hg:W.grownBy W' s.ownBlock)(ho:W'.ownsRow w0.heap.size 3 1 s' n' WV):TR w0 wr W' v s' n1 n' cs WV:=
 ⟨h.e.grown hg (AW h.s),h.k.trans (KU.grown hg (Gw h.s (by decide))),Ja h.s h.r (by decide) hg,ho⟩
theorem Blk.past{W W':World}{b:Nat}{t t':TypeId}{cs:Array Value}{B m n:Nat}{v:Value}{xs:List Value}(hb:Blk W b t cs)(hr:W.ownsRow B t' m v n xs)(ht:t'≠t)(hg:W.grownBy W' v.ownBlock):Blk W' b t cs:=by
 refine(hg.block b hb.lt (fun e=> ?_)).trans hb;rcases hr.2 with ⟨rfl,_⟩|⟨q,cap,cur,rfl,_,hh,_⟩
 ·cases e
 ·simp only[Value.ownBlock,Option.some.injEq]at e;subst e;unfold Blk at hb;rw[hh]at hb;injection hb with hb
  injection hb with _ hb
  exact ht hb
section
open Go
variable {P:Program} {ops:Array Oper} {Q:Exit->Act->World->Prop} {md:Region.Mode} {S:World->Prop}
theorem tk (i d:Nat) {p t s af gd} {v:Value} {fuel:Nat} {listed:Array Bool} {a:Act} {w:World} (hi:ops[i]? =some ⟨some d,p,t,s,af,gd⟩)
  (hc:(Region.noSelect ops && Region.free md ops listed i && (Region.ready md ops listed).contains i)=true)
  (hQ:∀c a w,Q (.panic c) (a.put (some d) v) w->Q (.panic c) a w) (hw:Region.wanted ⟨some d,p,t,s,af,gd⟩ (yielded ops a.tmps)=true) (hS:S w)
  (hy:∀w',S w'->(execOp a.eval ⟨some d,p,t,s,af,gd⟩).run P w'= .ok (.value v) w')
  (h:wpAnyH P md ops Q S fuel (listed.setIfInBounds i true) (a.put (some d) v) w):wpAnyH P md ops Q S (fuel+1) listed a w:=by
 simp only[Bool.and_eq_true]at hc;exact wpAnyH_take hi hc.1.1 hc.1.2 hc.2 hQ (Or.inl ⟨hw,hy⟩) hS h
theorem pu:(∀(a:Act) (d:Nat) (v:Value),a.put (some d) v={ a with tmps:=a.tmps.setIfInBounds d v })/\(∀(a:Act) (v:Value),a.put none v=a)/\(∀(l:List Value) (i:Nat) (v:Value),l.toArray.setIfInBounds i v=(l.set i v).toArray)/\(∀(x v:Value) (l:List Value),(x::l).set 0 v=v::l)/\(∀(x v:Value) (l:List Value) (i:Nat),(x::l).set (i+1) v=x::l.set i v):=
 ⟨fun _ _ _=>rfl,fun _ _=>rfl,fun _ _ _=>List.setIfInBounds_toArray ..,fun _ _ _=>rfl,fun _ _ _ _=>rfl⟩
end
theorem atH{P:Program}{md:Region.Mode}{ops:Array Oper}{Q:Exit->Act->World->Prop}{S:World->Prop}{fuel:Nat}{listed:Array Bool}{a:Act}{w:World}(F:World->Prop)(hF:F w)(hS:S w)(h:∀W,F W->S W->wpAnyH P md ops Q S fuel listed a W):wpAnyH P md ops Q S fuel listed a w:=h w hF hS
theorem BO.tr{w0 wr W:World}{v s:Value}{n2:Nat}{cs ss:List Value}{T:List X2}{x:X2}{b:Bool}{A:Option Addr}{n c:Nat}{A':Option Addr}{n' c':Nat}(h:TR w0 wr W v s (T.length+1) n2 (cs++[.bool b,.slice A n c,.slice A' n' c']) ss)(hr:DF wr cs T)(hx:Ag 0 wr (.agg #[.bool b,.slice A n c,.slice A' n' c']) x.p x.q):BO w0.heap.size W v (T++[x]):=BO.push (v:=v) hr h.k h.r hx
theorem B4.tr{w0 wr W:World}{v s:Value}{n1:Nat}{cs:List Value}{T:List X2}{x:X2}(h:TR w0 wr W v s n1 (T.length+1) cs (T.map (fun x=>Value.int .i64 (x.st:Int))++[.int .i64 (x.st:Int)])):B4 w0.heap.size W s (T++[x]):=B4.push h.s
theorem SD(L:List X2)(x:X2):GT (L++[x])=(GT L || (x.st == 2)):=by
 unfold GT;rw[List.any_append,List.any_cons,List.any_nil,Bool.or_false]
theorem Sv(L:List X2)(x:X2):Gd (L++[x])=Gd L+if x.st=1 then 1 else 0:=by
 have h:=TK x;unfold Gd at *;rw[List.filter_append,List.length_append,h]
theorem Uw(L:List X2):Gd L<=L.length:=List.length_filter_le _ _
theorem OJ{L:List X2}(h:∀y∈L,y.Ok)(i:Nat):(L.getD i X2.O).Ok:=by
 rw[List.getD_eq_getElem?_getD];rcases he:L[i]? with _|z
 ·exact X2.O_ok
 ·exact h z (List.mem_of_getElem? he)
theorem Nk(B g:Nat)(w:World)(ns:List Nd)(rv:Value)(h:GrR B g w ns rv):Calls Tryz.prog 29 #[.pointer (some ⟨g,0,none⟩)] w (LB ns w):=by
 have HS:=hid h.ok;have eX:=h.few;obtain⟨n,hJ⟩:∃n,n=ns.length:=⟨_,rfl⟩;have kh:=hid hJ;obtain⟨k0,f0,er⟩:=h.blk.oneG;obtain⟨A,c,yF,lG⟩:=h.row.read;subst yF;have mC:=hid lG;rw[<-hJ]at k0 eX;unfold LB;have cq:=hid (Ext.refl w);clear h lG hJ;go_enter Tryz.func29,Tryz.ntmps29;go_wp2_with fail;go_loopw [23,4,5] (fun xZ s4 s5 wr=>∃k:Nat,k<=n/\xZ= .int .i64 (k:Int)/\BO w.heap.size wr s4 (CA (ns.take k))/\B4 w.heap.size wr s5 (CA (ns.take k))/\Ext w wr) (fun xZ _ _ _=>n-(intOf xZ).toNat)
 case atStart=>exact⟨0,Nat.zero_le _,rfl,by rw[List.take_zero];exact BO.nil _ _,by rw[List.take_zero];exact B4.nil _ _,cq.out⟩
 case round=>
  clear cq;obtain⟨k,hk,rfl,pq,mI,hx⟩:=hrel;obtain⟨AV,cV,rfl⟩:=pq.shape;obtain⟨AS,cS,rfl⟩:=mI.shape;have oW:(CA (ns.take k)).length=k:=by rw[Gm,List.length_take];have:=kh.out;omega
  rw[oW]at pq mI ⊢;by_cases hlt:k<n
  ·have jk:k<ns.length:=by rw[<-kh.out];exact hlt
   have az:=HS.out.2 k _ (List.getElem?_eq_getElem jk);have d7:Hid (CA (ns.take (k+1))=CA (ns.take k)++[Bf ns[k] ((CA (ns.take k)).getD ns[k].a.toNat X2.O) ((CA (ns.take k)).getD ns[k].b.toNat X2.O)]):=hid (by rw[List.take_succ_eq_append_getElem jk,Ke];rfl);have uc:=hid (SY (ns.take k));have mP:=hid oW;generalize CA (ns.take k)=T at *;have xB:=hid pq;have xE:=hid mI;have HX:=hid hx;have mX:=hid az.args_lt;have su:=az.args_len;have oA:=hid az.oper;have ug:=hid (fun W=>Ko W ns[k] az);unfold M0 at ug;obtain⟨gb,o,rfl,fD,hc⟩:=mC.out (by have:=kh.out;omega);obtain⟨p0,p1,p2,p3,p4⟩:=hc k jk;rw[<-hx.cell fD]at p0 p1 p2 p3 p4;have aQ:gb<wr.heap.size:=Nat.lt_of_lt_of_le fD hx.size;have mM:(0:Int)<=(k:Int):=by omega
   have tX:(k:Int)<(n:Int):=by omega
   have wY:IntKind.i64.wrap ((k:Int)+1)=(k:Int)+1:=IntWalk.i64_in _ (by omega);have iP:=hid az;clear hc pq mI hx oW;obtain⟨zs,m8⟩:∃zs,zs=BF ns[k]:=⟨_,rfl⟩;rw[<-m8]at mX su oA ug;obtain⟨x,W7⟩:∃x,ns[k]=x:=⟨_,rfl⟩;rw[W7]at m8 d7 oA ug iP p0 p1 p2 p3 p4;have xv:=hid m8;clear jk az m8 W7;obtain⟨y0,y1,y2,y3,y4⟩:=x;simp only[ndV]at ug;simp only at p0 p1 p2 p3 p4 oA;obtain⟨s,hst⟩:∃s:ByteArray,str y4= .string s:=⟨_,rfl⟩;have bG:=hid hst;rw[hst]at p4 ug;clear hst;have HN:=hid (Blk.new wr 95 #[.int .i64 y0,.int .i64 y1,.int .i64 y2,.int .i64 y3,.string s]);have bx:=(Ext.refl wr).alloc (.cells #[.int .i64 y0,.int .i64 y1,.int .i64 y2,.int .i64 y3,.string s] 95);go_upto_region 6 with fail;generalize wr.alloc (.cells #[.int .i64 y0,.int .i64 y1,.int .i64 y2,.int .i64 y3,.string s] 95)=w7 at *;have HX:=hid (HX.out.trans bx);have xB:=hid (xB.out.ext bx);have xE:=hid (xE.out.ext bx);generalize wr.heap.size=nb at *;clear bx p0 p1 p2 p3 p4 k0 f0;have an:=HN.out.five;go_wp2_with fail;refine(ug.out w7).mono ?_
   rintro e w8 ⟨A8,c8,rfl,bD,xm⟩;have dq:=hid (HX.out.trans bD);have sT:=hid (xB.out.ext bD);have sU:=hid (xE.out.ext bD);have mt:=hid (HN.out.ext bD);clear HX xB xE HN;have YD:=hid xm;obtain⟨m,hm⟩:∃m,m=zs.length:=⟨_,rfl⟩;have HM:=hid hm;rw[<-hm]at su ⊢;clear bD xm an hm;go_wp2_with fail;generalize wr=wa at *;go_loopw [30,8,9,10,11] (fun ui s8 s9 s10 s11 wr=>∃q:Nat,q<=m/\ui= .int .i64 (q:Int)/\BO w8.heap.size wr s8 (Ez T (zs.take q))/\B4 w8.heap.size wr s9 (Ez T (zs.take q))/\s10= .int .i64 (Gd (Ez T (zs.take q)):Int)/\s11= .bool (GT (Ez T (zs.take q)))/\Ext w8 wr) (fun ui _ _ _ _ _=>m-(intOf ui).toNat)
   case atStart=>exact⟨0,Nat.zero_le _,rfl,BO.nil _ _,B4.nil _ _,rfl,rfl,Ext.refl _⟩
   case round=>
    obtain⟨q,hq,rfl,rH,rG,rfl,rfl,hx⟩:=hrel;obtain⟨AL,cL,rfl⟩:=rH.shape;obtain⟨AM,cM,rfl⟩:=rG.shape;have tS:(Ez T (zs.take q)).length=q:=by unfold Ez;rw[List.length_map,List.length_take];have:=HM.out;omega
    rw[tS]at rH rG ⊢;by_cases hqm:q<m
    ·obtain⟨b8,rfl,al,hb2,aa⟩:=YD.out (by have:=HM.out;omega);have pb:=(hx.cell hb2).trans (aa q (by have:=HM.out;omega));have W4:zs.getD q 0<k:=by
      rw[List.getD_eq_getElem?_getD,List.getElem?_eq_getElem (by have:=HM.out;omega)];exact mX.out _ (List.getElem_mem _)
     have mQ:=hid (PT T zs (q:=q) (by have:=HM.out;omega));obtain⟨gv,cv,hev,hgv,vl,bb,A1,n1,k1,A2,n2,k2,xd,tQ⟩:=sT.out.at (i:=zs.getD q 0) (by rw[mP.out];exact W4);obtain⟨gs,cs2,hes,jm,rY,el⟩:=sU.out.at (i:=zs.getD q 0) (by rw[mP.out];exact W4);generalize T.getD (zs.getD q 0) X2.O=y at *;generalize Ez T (zs.take q)=L at *;obtain⟨L2,hl2⟩:∃L2,L2=Ez T (zs.take (q+1)):=⟨_,rfl⟩;rw[<-hl2]at mQ;have kI:=hid hl2;clear hl2;generalize zs.getD q 0=a at *;injection hev with ev1 evn ev2
     injection hes with es1 esn es2
     clear evn esn;subst ev1;subst es1;subst ev2;subst es2;obtain⟨pG,kP,nz⟩:=rH;rw[tS]at kP;have Wm:=hid (fun W (hx:Ext wr W)=>Aj kP (fun k _ hk=>hx.block k hk));have uf:=hid nz;have mT:=hid (fun W (hx:Ext wr W)=>rG.ext hx);unfold B4 at mT;rw[tS]at mT;have tj:=hid tS;have Yo:=hid (fun W (hx:Ext w8 W)=>xd.ext hx);have gP:=hid (fun W (hx:Ext w8 W)=>(hx.cell rY).trans el);have xG:=hid tQ;have vX:=hid hx;have mK:(0:Int)<=(q:Int):=by omega
     have yN:(q:Int)<(m:Int):=by omega
     have zU:(0:Int)<=(a:Int):=by omega
     have xp:(a:Int)<(k:Int):=by omega
     have hwq:IntKind.i64.wrap ((q:Int)+1)=(q:Int)+1:=IntWalk.i64_in _ (by omega);have HS8:Hid (w8.heap.size<=wr.heap.size):=hid hx.size;obtain⟨i0,hi,aE,hz1,ba⟩:=info_parts Mx;obtain⟨j0,hj,dx,aZ,cx⟩:=info_parts My;have jM:=hid (And.intro hi (And.intro aE (And.intro hz1 ba)));have jL:=hid (And.intro hj (And.intro dx (And.intro aZ cx)));have dM:=hid (fun k hk=>BV (Wm.out wr (Ext.refl _)) (k:=k) hk);clear hi aE hz1 ba hj dx aZ cx;clear tS rG nz tQ kP hx hlt aa xd el hgv jm vl rY;clear dM;go_upto_region 13 with fail
     go_cut [8,9] from 34 to 47 (fun s8 s9 wx=>BO w8.heap.size wx s8 L2/\B4 w8.heap.size wx s9 L2/\Ext w8 wx)
     case first=>
      refine wp_region_held_drew (S:=fun w'=>Ext w8 w') (by kernel_rfl) (by exact vX.out.drew) (fun hHeld=> ?_);refine atH (fun W=>TR w8 wr W (.slice AL q cL) (.slice AM q cM) q q pG (L.map fun x=>Value.int .i64 (x.st:Int))) (TR.ext ⟨vX.out,KU.refl _,Wm.out _ (Ext.refl _),mT.out _ (Ext.refl _)⟩ (Ext.refl _).drew) hHeld ?_
      clear hHeld;intro W0 hT hHeld;have HT:=hid hT;clear hT;refine' tk 0 34 rfl (by kernel_rfl) (fun _ _ _ h=>h) (by rfl) hHeld ?_ ?_
      rotate_left
      ·(intro _ _;go_simp;(try with_reducible rfl))
      try simp only[pu]
      refine' tk 1 35 rfl (by kernel_rfl) (fun _ _ _ h=>h) (by rfl) hHeld ?_ ?_
      rotate_left
      ·(intro _ _;go_simp;(try with_reducible rfl))
      try simp only[pu]
      refine' tk 2 36 rfl (by kernel_rfl) (fun _ _ _ h=>h) (by rfl) hHeld ?_ ?_
      rotate_left
      ·(intro _ _;go_simp;(try with_reducible rfl))
      try simp only[pu]
      refine' tk 3 37 rfl (by kernel_rfl) (fun _ _ _ h=>h) (by rfl) hHeld ?_ ?_
      rotate_left
      ·(intro _ _;go_simp;(try with_reducible rfl))
      try simp only[pu]
      refine' tk 4 38 rfl (by kernel_rfl) (fun _ _ _ h=>h) (by rfl) hHeld ?_ ?_
      rotate_left
      ·(intro w' a9;(try dsimp only at a9);obtain⟨c0,c1,c2⟩:=Yo.out _ a9;go_simp;(try with_reducible rfl))
      try simp only[pu]
      refine' tk 7 41 rfl (by kernel_rfl) (fun _ _ _ h=>h) (by rfl) hHeld ?_ ?_
      rotate_left
      ·(intro _ _;go_simp;(try with_reducible rfl))
      try simp only[pu]
      refine' tk 8 42 rfl (by kernel_rfl) (fun _ _ _ h=>h) (by rfl) hHeld ?_ ?_
      rotate_left
      ·(intro _ _;go_simp;(try with_reducible rfl))
      try simp only[pu]
      refine' tk 9 43 rfl (by kernel_rfl) (fun _ _ _ h=>h) (by rfl) hHeld ?_ ?_
      rotate_left
      ·(intro _ _;go_simp;(try with_reducible rfl))
      try simp only[pu]
      refine' tk 10 44 rfl (by kernel_rfl) (fun _ _ _ h=>h) (by rfl) hHeld ?_ ?_
      rotate_left
      ·(intro _ _;go_simp;(try with_reducible rfl))
      try simp only[pu]
      refine' tk 11 45 rfl (by kernel_rfl) (fun _ _ _ h=>h) (by rfl) hHeld ?_ ?_
      rotate_left
      ·(intro w' a9;(try dsimp only at a9);have sc:=gP.out _ a9;go_simp;(try with_reducible rfl))
      try simp only[pu]
      refine wpAnyH_ready (rs:=[5,12]) (by kernel_rfl) (by simp) ?_
      refine AllReadyH.cons (i:=5) (o:=⟨some 39,_,_,_,_,_⟩) rfl (fun K hK=> ?_) (AllReadyH.cons (i:=12) (o:=⟨some 46,_,_,_,_,_⟩) rfl (fun K hK=> ?_) AllReadyH.nil)
      ·go_simp;try go_wp2_with fail
       refine hK.out _ _ ?_ (fun hHeld=> ?_)
       ·first|exact HT.out.e.alloc _|exact(HT.out.e.alloc _).drew
       clear hK K;try simp only[pu]
       obtain⟨nr,uL⟩:∃nr,W0.heap.size=nr:=⟨_,rfl⟩;have hz:=Blk.new W0 26 #[.bool bb,.slice A1 n1 k1,.slice A2 n2 k2];rw[uL]at hz ⊢;refine atH (fun W=>TR w8 wr W (.slice AL q cL) (.slice AM q cM) q q pG (L.map fun x=>Value.int .i64 (x.st:Int))/\Blk W nr 26 #[.bool bb,.slice A1 n1 k1,.slice A2 n2 k2]) ⟨HT.out.ext ((Ext.refl _).alloc _),hz⟩ hHeld ?_
       clear hHeld hz uL;rintro W1 ⟨hT,hB⟩ hHeld;have HT:=hid hT;have HB:=hid hB;clear hT hB;refine wpAnyH_ready (rs:=[6,12]) (by kernel_rfl) (by simp) ?_
       refine AllReadyH.cons (i:=6) (o:=⟨some 40,_,_,_,_,_⟩) rfl (fun K hK=> ?_) (AllReadyH.cons (i:=12) (o:=⟨some 46,_,_,_,_,_⟩) rfl (fun K hK=> ?_) AllReadyH.nil)
       ·refine BT rfl (.tmp 34) (.tmp 39) 54 rfl w8.heap.size 26 i0 _ 3 56 Tryz.underlying54 jM.out.1 jM.out.2.1 jM.out.2.2.1 jM.out.2.2.2 rfl (by decide) (.slice AL q cL) _ _ rfl HT.out.r ⟨nr,0,none⟩ 1 1 [.bool bb,.slice A1 n1 k1,.slice A2 n2 k2] rfl rfl (World.news_of_block HB.out) IH (by unfold maxLen;omega) (by omega) HT.out.e.size ?_
        intro v6 w6 iC iU;have hT:=HT.out.row iU iC;refine hK.out _ _ ?_ (fun hHeld=> ?_)
        ·exact hT.e
        clear hK K;try simp only[pu]
        have HT:=hid hT;clear hT;refine wpAnyH_ready (rs:=[12]) (by kernel_rfl) (by simp) ?_
        refine AllReadyH.cons (i:=12) (o:=⟨some 46,_,_,_,_,_⟩) rfl (fun K hK=> ?_) AllReadyH.nil;go_simp;try go_wp2_with fail
        refine hK.out _ _ ?_ (fun hHeld=> ?_)
        ·first|exact HT.out.e.alloc _|exact(HT.out.e.alloc _).drew
        clear hK K;try simp only[pu]
        obtain⟨nt,eK⟩:∃nt,w6.heap.size=nt:=⟨_,rfl⟩;have hz:=Blk.new w6 3 #[.int .i64 (y.st:Int)];rw[eK]at hz ⊢;refine atH (fun W=>TR w8 wr W v6 (.slice AM q cM) (q+1) q (pG++[.bool bb,.slice A1 n1 k1,.slice A2 n2 k2]) (L.map fun x=>Value.int .i64 (x.st:Int))/\Blk W nt 3 #[.int .i64 (y.st:Int)]) ⟨HT.out.ext ((Ext.refl _).alloc _),hz⟩ hHeld ?_
        clear hHeld hz eK;rintro W3 ⟨hT,hC⟩ hHeld;have HT:=hid hT;have HC:=hid hC;clear hT hC;refine wpAnyH_ready (rs:=[13]) (by kernel_rfl) (by simp) ?_
        refine AllReadyH.cons (i:=13) (o:=⟨some 47,_,_,_,_,_⟩) rfl (fun K hK=> ?_) AllReadyH.nil;refine BT rfl (.tmp 41) (.tmp 46) 41 rfl w8.heap.size 3 j0 _ 1 8 Tryz.underlying41 jL.out.1 jL.out.2.1 jL.out.2.2.1 jL.out.2.2.2 rfl (by decide) (.slice AM q cM) _ _ rfl HT.out.s ⟨nt,0,none⟩ 1 1 [.int .i64 (y.st:Int)] rfl rfl (World.news_of_block HC.out) IN (by unfold maxLen;omega) (by omega) HT.out.e.size ?_
        intro v7 WS mL jG;have hT:=HT.out.col jG mL;refine hK.out _ _ ?_ (fun hHeld=> ?_)
        ·exact hT.e
        clear hK K;try simp only[pu]
        have HT:=hid hT;clear hT;refine' tk 14 8 rfl (by kernel_rfl) (fun _ _ _ h=>h) (by rfl) hHeld ?_ ?_
        rotate_left
        ·(intro _ _;go_simp;(try with_reducible rfl))
        try simp only[pu]
        refine' tk 15 9 rfl (by kernel_rfl) (fun _ _ _ h=>h) (by rfl) hHeld ?_ ?_
        rotate_left
        ·(intro _ _;go_simp;(try with_reducible rfl))
        try simp only[pu]
        refine wpAnyH_done (by kernel_rfl) ?_ _
        clear hHeld;go_wp2_with fail;go_meet;have p9:=BO.tr (by rw[tj.out];exact HT.out) uf.out (xG.out.ext vX.out);have p8:=B4.tr (x:=y) (by rw[tj.out];exact HT.out);rw[<-mQ.out]at p9 p8;exact⟨p9,p8,HT.out.e⟩
       ·go_simp;try go_wp2_with fail
        refine hK.out _ _ ?_ (fun hHeld=> ?_)
        ·first|exact HT.out.e.alloc _|exact(HT.out.e.alloc _).drew
        clear hK K;try simp only[pu]
        obtain⟨nt,eK⟩:∃nt,W1.heap.size=nt:=⟨_,rfl⟩;have hz:=Blk.new W1 3 #[.int .i64 (y.st:Int)];rw[eK]at hz ⊢;refine atH (fun W=>TR w8 wr W (.slice AL q cL) (.slice AM q cM) q q pG (L.map fun x=>Value.int .i64 (x.st:Int))/\Blk W nr 26 #[.bool bb,.slice A1 n1 k1,.slice A2 n2 k2]/\Blk W nt 3 #[.int .i64 (y.st:Int)]) ⟨HT.out.ext ((Ext.refl _).alloc _),HB.out.alloc _,hz⟩ hHeld ?_
        clear hHeld hz eK;rintro W2 ⟨hT,hB,hC⟩ hHeld;have HT:=hid hT;have HB:=hid hB;have HC:=hid hC;clear hT hB hC;refine wpAnyH_ready (rs:=[6]) (by kernel_rfl) (by simp) ?_
        refine AllReadyH.cons (i:=6) (o:=⟨some 40,_,_,_,_,_⟩) rfl (fun K hK=> ?_) AllReadyH.nil;refine BT rfl (.tmp 34) (.tmp 39) 54 rfl w8.heap.size 26 i0 _ 3 56 Tryz.underlying54 jM.out.1 jM.out.2.1 jM.out.2.2.1 jM.out.2.2.2 rfl (by decide) (.slice AL q cL) _ _ rfl HT.out.r ⟨nr,0,none⟩ 1 1 [.bool bb,.slice A1 n1 k1,.slice A2 n2 k2] rfl rfl (World.news_of_block HB.out) IH (by unfold maxLen;omega) (by omega) HT.out.e.size ?_
        intro v6 w6 iC iU;have hT:=HT.out.row iU iC;have hC:=HC.out.past HT.out.r (by decide) iU;refine hK.out _ _ ?_ (fun hHeld=> ?_)
        ·exact hT.e
        clear hK K;try simp only[pu]
        have HT:=hid hT;have HC:=hid hC;clear hT hC;refine wpAnyH_ready (rs:=[13]) (by kernel_rfl) (by simp) ?_
        refine AllReadyH.cons (i:=13) (o:=⟨some 47,_,_,_,_,_⟩) rfl (fun K hK=> ?_) AllReadyH.nil;refine BT rfl (.tmp 41) (.tmp 46) 41 rfl w8.heap.size 3 j0 _ 1 8 Tryz.underlying41 jL.out.1 jL.out.2.1 jL.out.2.2.1 jL.out.2.2.2 rfl (by decide) (.slice AM q cM) _ _ rfl HT.out.s ⟨nt,0,none⟩ 1 1 [.int .i64 (y.st:Int)] rfl rfl (World.news_of_block HC.out) IN (by unfold maxLen;omega) (by omega) HT.out.e.size ?_
        intro v7 WS mL jG;have hT:=HT.out.col jG mL;refine hK.out _ _ ?_ (fun hHeld=> ?_)
        ·exact hT.e
        clear hK K;try simp only[pu]
        have HT:=hid hT;clear hT;refine' tk 14 8 rfl (by kernel_rfl) (fun _ _ _ h=>h) (by rfl) hHeld ?_ ?_
        rotate_left
        ·(intro _ _;go_simp;(try with_reducible rfl))
        try simp only[pu]
        refine' tk 15 9 rfl (by kernel_rfl) (fun _ _ _ h=>h) (by rfl) hHeld ?_ ?_
        rotate_left
        ·(intro _ _;go_simp;(try with_reducible rfl))
        try simp only[pu]
        refine wpAnyH_done (by kernel_rfl) ?_ _
        clear hHeld;go_wp2_with fail;go_meet;have p9:=BO.tr (by rw[tj.out];exact HT.out) uf.out (xG.out.ext vX.out);have p8:=B4.tr (x:=y) (by rw[tj.out];exact HT.out);rw[<-mQ.out]at p9 p8;exact⟨p9,p8,HT.out.e⟩
      ·go_simp;try go_wp2_with fail
       refine hK.out _ _ ?_ (fun hHeld=> ?_)
       ·first|exact HT.out.e.alloc _|exact(HT.out.e.alloc _).drew
       clear hK K;try simp only[pu]
       obtain⟨nt,eK⟩:∃nt,W0.heap.size=nt:=⟨_,rfl⟩;have hz:=Blk.new W0 3 #[.int .i64 (y.st:Int)];rw[eK]at hz ⊢;refine atH (fun W=>TR w8 wr W (.slice AL q cL) (.slice AM q cM) q q pG (L.map fun x=>Value.int .i64 (x.st:Int))/\Blk W nt 3 #[.int .i64 (y.st:Int)]) ⟨HT.out.ext ((Ext.refl _).alloc _),hz⟩ hHeld ?_
       clear hHeld hz eK;rintro W1 ⟨hT,hC⟩ hHeld;have HT:=hid hT;have HC:=hid hC;clear hT hC;refine wpAnyH_ready (rs:=[5]) (by kernel_rfl) (by simp) ?_
       refine AllReadyH.cons (i:=5) (o:=⟨some 39,_,_,_,_,_⟩) rfl (fun K hK=> ?_) AllReadyH.nil;go_simp;try go_wp2_with fail
       refine hK.out _ _ ?_ (fun hHeld=> ?_)
       ·first|exact HT.out.e.alloc _|exact(HT.out.e.alloc _).drew
       clear hK K;try simp only[pu]
       obtain⟨nr,uL⟩:∃nr,W1.heap.size=nr:=⟨_,rfl⟩;have hz:=Blk.new W1 26 #[.bool bb,.slice A1 n1 k1,.slice A2 n2 k2];rw[uL]at hz ⊢;refine atH (fun W=>TR w8 wr W (.slice AL q cL) (.slice AM q cM) q q pG (L.map fun x=>Value.int .i64 (x.st:Int))/\Blk W nr 26 #[.bool bb,.slice A1 n1 k1,.slice A2 n2 k2]/\Blk W nt 3 #[.int .i64 (y.st:Int)]) ⟨HT.out.ext ((Ext.refl _).alloc _),hz,HC.out.alloc _⟩ hHeld ?_
       clear hHeld hz uL;rintro W2 ⟨hT,hB,hC⟩ hHeld;have HT:=hid hT;have HB:=hid hB;have HC:=hid hC;clear hT hB hC;refine wpAnyH_ready (rs:=[6]) (by kernel_rfl) (by simp) ?_
       refine AllReadyH.cons (i:=6) (o:=⟨some 40,_,_,_,_,_⟩) rfl (fun K hK=> ?_) AllReadyH.nil;refine BT rfl (.tmp 34) (.tmp 39) 54 rfl w8.heap.size 26 i0 _ 3 56 Tryz.underlying54 jM.out.1 jM.out.2.1 jM.out.2.2.1 jM.out.2.2.2 rfl (by decide) (.slice AL q cL) _ _ rfl HT.out.r ⟨nr,0,none⟩ 1 1 [.bool bb,.slice A1 n1 k1,.slice A2 n2 k2] rfl rfl (World.news_of_block HB.out) IH (by unfold maxLen;omega) (by omega) HT.out.e.size ?_
       intro v6 w6 iC iU;have hT:=HT.out.row iU iC;have hC:=HC.out.past HT.out.r (by decide) iU;refine hK.out _ _ ?_ (fun hHeld=> ?_)
       ·exact hT.e
       clear hK K;try simp only[pu]
       have HT:=hid hT;have HC:=hid hC;clear hT hC;refine wpAnyH_ready (rs:=[13]) (by kernel_rfl) (by simp) ?_
       refine AllReadyH.cons (i:=13) (o:=⟨some 47,_,_,_,_,_⟩) rfl (fun K hK=> ?_) AllReadyH.nil;refine BT rfl (.tmp 41) (.tmp 46) 41 rfl w8.heap.size 3 j0 _ 1 8 Tryz.underlying41 jL.out.1 jL.out.2.1 jL.out.2.2.1 jL.out.2.2.2 rfl (by decide) (.slice AM q cM) _ _ rfl HT.out.s ⟨nt,0,none⟩ 1 1 [.int .i64 (y.st:Int)] rfl rfl (World.news_of_block HC.out) IN (by unfold maxLen;omega) (by omega) HT.out.e.size ?_
       intro v7 WS mL jG;have hT:=HT.out.col jG mL;refine hK.out _ _ ?_ (fun hHeld=> ?_)
       ·exact hT.e
       clear hK K;try simp only[pu]
       have HT:=hid hT;clear hT;refine' tk 14 8 rfl (by kernel_rfl) (fun _ _ _ h=>h) (by rfl) hHeld ?_ ?_
       rotate_left
       ·(intro _ _;go_simp;(try with_reducible rfl))
       try simp only[pu]
       refine' tk 15 9 rfl (by kernel_rfl) (fun _ _ _ h=>h) (by rfl) hHeld ?_ ?_
       rotate_left
       ·(intro _ _;go_simp;(try with_reducible rfl))
       try simp only[pu]
       refine wpAnyH_done (by kernel_rfl) ?_ _
       clear hHeld;go_wp2_with fail;go_meet;have p9:=BO.tr (by rw[tj.out];exact HT.out) uf.out (xG.out.ext vX.out);have p8:=B4.tr (x:=y) (by rw[tj.out];exact HT.out);rw[<-mQ.out]at p9 p8;exact⟨p9,p8,HT.out.e⟩
     case rest=>
     obtain⟨uZ,uY,ae⟩:=hcut;have sc:=gP.out _ ae;have Wl:=hid uZ;have Wk:=hid uY;have aI:=hid ae;have qO:Hid (GT L2=(GT L || ((y.st:Int) == 2))):=hid (by rw[mQ.out,SD];congr 1;rw[Bool.eq_iff_iff];simp only[beq_iff_eq];omega);have WB:Hid (Gd L2=Gd L+if ((y.st:Int) == 1) then 1 else 0):=hid (by rw[mQ.out,Sv];congr 1;simp only[beq_iff_eq];by_cases h:y.st=1<;>simp[h]<;>omega);have lG:=Uw L;rw[tj.out]at lG;obtain⟨bl,eP⟩:∃bl,GT L=bl:=⟨_,rfl⟩;obtain⟨cl,nT⟩:∃cl,Gd L=cl:=⟨_,rfl⟩;rw[eP]at qO ⊢;rw[nT]at WB lG ⊢;have hwc:IntKind.i64.wrap ((cl:Int)+1)=(cl:Int)+1:=IntWalk.i64_in _ (by omega);obtain⟨c2,cW⟩:∃c2,((y.st:Int) == 2)=c2:=⟨_,rfl⟩;obtain⟨c1,hc1⟩:∃c1,((y.st:Int) == 1)=c1:=⟨_,rfl⟩;rw[cW]at qO;rw[hc1]at WB;clear uZ uY ae eP nT pb Wm uf mT Yo xG jM jL;rcases bl with _|_<;>rcases c1 with _|_
     all_goals
      go_wp2_with fail;go_roundw
      ·exact⟨q+1,hqm,by go_num,by rw[<-kI.out];exact Wl.out,by rw[<-kI.out];exact Wk.out,by rw[<-kI.out,WB.out];rfl,by rw[<-kI.out,qO.out];rfl,aI.out⟩
      ·simp only[intOf];omega
    ·obtain rfl:q=m:=by omega
     have gK:zs.take q=zs:=List.take_of_length_le (by have:=HM.out;omega);rw[gK]at rH rG ⊢;have mU:Hid ((Ez T zs).length=(BF ⟨y0,y1,y2,y3,y4⟩).length):=hid (by rw[<-xv.out];unfold Ez;rw[List.length_map]);have ir:=hid (Tc (fun x hx=>uc.out x hx) zs);have Yc:Hid (CA (ns.take (k+1))=T++[Bf ⟨y0,y1,y2,y3,y4⟩ ((Ez T zs).getD 0 X2.O) ((Ez T zs).getD 1 X2.O)]):=hid (by rw[d7.out,xv.out,QH iP.out]);generalize Ez T zs=L at *;have aD:=hid (fun h=>QK iP.out mU.out h);have lr:=hid (fun h1 h2 h3=>QJ iP.out mU.out h1 h2 h3);rw[<-xv.out,<-HM.out]at lr;have rB:=iP.out;have xC:=hid (fun W (hx:Ext wr W)=>SU w8.heap.size W _ rB L mU.out ir.out _ _ (rH.ext hx) (rG.ext hx));have jv:=hid (fun W (hx:Ext wr W) hu hn=>ST w8.heap.size W _ rB L mU.out ir.out _ (rH.ext hx) hu hn);rw[<-xv.out,<-HM.out]at jv;have HXok:=hid (Fz ⟨y0,y1,y2,y3,y4⟩ (x:=L.getD 0 X2.O) (y:=L.getD 1 X2.O) (OJ ir.out 0) (OJ ir.out 1));generalize Bf ⟨y0,y1,y2,y3,y4⟩ (L.getD 0 X2.O) (L.getD 1 X2.O)=X at *;unfold Dc at jv;simp only[ndV,bG.out]at xC jv;have i3:=hid (dq.out.trans hx);have Ye:=hid (sT.out.ext hx);have Yl:=hid (sU.out.ext hx);obtain⟨n0,n1,n2,n3,n4⟩:=(mt.out.ext hx).five;have HNR:=hid (mt.out.ext hx);obtain⟨i0,hi,aE,hz1,ba⟩:=info_parts Mx;obtain⟨j0,hj,dx,aZ,cx⟩:=info_parts My;have jM:=hid (And.intro hi (And.intro aE (And.intro hz1 ba)));have jL:=hid (And.intro hj (And.intro dx (And.intro aZ cx)));obtain⟨bl,eP⟩:∃bl,GT L=bl:=⟨_,rfl⟩;obtain⟨cl,nT⟩:∃cl,Gd L=cl:=⟨_,rfl⟩;obtain⟨ub,tN⟩:∃ub,DJ ⟨y0,y1,y2,y3,y4⟩ L=ub:=⟨_,rfl⟩;rw[eP]at aD lr ⊢;rw[nT]at lr jv ⊢;rw[tN]at aD lr xC jv;have Wj:=hid hlt;clear rH rG hx tS gK rB hi aE hz1 ba hj dx aZ cx eP nT tN dq sT sU mt hlt mX d7 uc YD;go_upto_region 19 with fail;obtain⟨vb,yv⟩:∃vb,wr.heap.size=vb:=⟨_,rfl⟩;have lJ:=Blk.new wr 26 #[.bool false,.slice none 0 0,.slice none 0 0];have dn:=(Ext.refl wr).alloc (.cells #[.bool false,.slice none 0 0,.slice none 0 0] 26);rw[yv]at lJ ⊢;generalize wr.alloc (.cells #[.bool false,.slice none 0 0,.slice none 0 0] 26)=w9 at *;have xR:=hid lJ;have ei:=hid dn;have HVB:=hid yv;obtain⟨q0,q1,q2,f0,f1,f2,q8⟩:=lJ.three;have n0:=dn.keep n0;have n1:=dn.keep n1;have n2:=dn.keep n2;have n3:=dn.keep n3;have n4:=dn.keep n4;clear lJ dn yv
     go_cut [71] from 65 to 71 (fun s71 wx=>s71= .bool (bl || ub)/\Ext w9 wx)
     case first=>
      rcases bl with _|_
      ·go_wp2_with fail;refine(xC.out w9 ei.out).mono ?_
       rintro e eC ⟨rfl,a7⟩;have eH:=hid a7;clear a7;go_wp2_with fail;go_meet;exact⟨rfl,eH.out⟩
      ·go_wp2_with fail;go_meet;exact⟨rfl,Ext.refl _⟩
     case rest=>
     obtain⟨rfl,a7⟩:=hcut;rename_i HK;refine HK _ _ ?_
     clear HK xC q0 q1 q2 f0 f1 f2 q8;have oS:=hid (xR.out.ext a7);have eH:=hid (ei.out.trans a7);obtain⟨q0,q1,q2,f0,f1,f2,q8⟩:=oS.out.three;have n0:=a7.keep n0;have n1:=a7.keep n1;have n2:=a7.keep n2;have n3:=a7.keep n3;have n4:=a7.keep n4;clear a7 xR ei;generalize wc=wd at *;obtain⟨tb,qd⟩:∃tb,(bl || ub)=tb:=⟨_,rfl⟩;rw[qd]
     go_cut [15,16,17] from 72 to 88 (fun s15 _ _ wx=>s15= .int .i64 (X.st:Int)/\∃(f:Bool) (G:Option Addr) (gn gj:Nat) (Y:Option Addr) (yn yj:Nat),Blk wx vb 26 #[.bool f,.slice G gn gj,.slice Y yn yj]/\Ag 0 wx (.agg #[.bool f,.slice G gn gj,.slice Y yn yj]) X.p X.q/\Ext wr wx)
     case first=>
      rcases tb with _|_
      ·have eP:bl=false:=by cases bl<;>simp at qd ⊢
       have tN:ub=false:=by cases ub<;>simp at qd ⊢
       have aT:=hid (fun W=>BB W y0);rw[oA.out,<-HM.out]at aT;have YB:=hid (lr.out eP tN);have HVP:=hid (fun W hx=>jv.out W hx tN);clear qd eP tN lr aD;by_cases hcn:cl=q
       ·have Yf:=hid (fun W hx=>HVP.out W hx hcn);subst hcn;go_wp2_with fail;refine(aT.out _).mono ?_
        rintro e eB ⟨rfl,rfl⟩;go_wp2_with fail;refine(Yf.out _ eH.out).mono ?_
        rintro e eB ⟨v11,bv,P,Q,rfl,dk,bE,hpl,ru,iJ⟩;obtain⟨f5,g5,G5,j5,y5,Y5,z5,rfl⟩:=dk.shape;have dl:=hid (oS.out.ext bE);have VJ:=hid (eH.out.trans bE);have pH:=hid dk;have V5:=hid iJ;clear dk bE iJ Yf aT YB q0 q1 q2 f0 f1 f2 q8 n0 n1 n2 n3 n4;go_upto_region 23 with fail;have iM:=Blk.new eB 26 #[.bool f5,.slice G5 g5 j5,.slice Y5 y5 z5];have de:=(Ext.refl eB).alloc (.cells #[.bool f5,.slice G5 g5 j5,.slice Y5 y5 z5] 26);obtain⟨xb,fl⟩:∃xb,eB.heap.size=xb:=⟨_,rfl⟩;rw[fl]at iM ⊢;have hvx:vb≠xb:=by have:=dl.out.lt;omega
        generalize eB.alloc (.cells #[.bool f5,.slice G5 g5 j5,.slice Y5 y5 z5] 26)=w12 at *;have cH:=hid (dl.out.ext de);have sS:=hid (VJ.out.trans de);have X9:=hid (pH.out.ext de);obtain⟨q0,q1,q2,f0,f1,f2,q8⟩:=cH.out.three;obtain⟨p0,p1,p2,e0,e1,e2,um⟩:=iM.three;have dP:=hid iM;clear iM de fl;rcases bv with _|_
        ·go_wp2_with fail;go_meet;rcases V5.out with ⟨h,_⟩|⟨_,rfl⟩
         ·cases h
         ·exact⟨rfl,_,_,_,_,_,_,_,cH.out,Ag.zero _ _,sS.out⟩
        ·have kG:=hid (IU w12 _ P Q X9.out.arr hpl ru);have xz:Hid (X=AJ P Q):=hid (by rcases V5.out with ⟨_,h⟩|⟨h,_⟩;exact h;cases h);obtain⟨bs,t6⟩:∃bs,decide (max (AG P.natAbs) (AG Q)<=1024)=bs:=⟨_,rfl⟩;rw[t6]at kG;have dc:Hid (X=if bs then ⟨1,P,Q⟩ else X2.O):=hid (by rw[xz.out];unfold AJ;rw[<-t6];simp);clear hpl ru t6 V5 xz q0 q1 q2 f0 f1 f2 e0 e1 e2;rcases bs with _|_
         ·go_wp2_with fail;refine kG.out.mono ?_
          rintro e w13 ⟨rfl,cF⟩;have iz:=hid (cH.out.ext cF);have sR:=hid (sS.out.trans cF);clear cF p0 p1 p2;go_wp2_with fail;go_meet;rw[dc.out];exact⟨rfl,_,_,_,_,_,_,_,iz.out,Ag.zero _ _,sR.out⟩
         ·go_wp2_with fail;refine kG.out.mono ?_
          rintro e w13 ⟨rfl,cF⟩;have iz:=hid (cH.out.ext cF);have sR:=hid (sS.out.trans cF);have VA:=hid (X9.out.ext cF);clear p0 p1 p2 um;obtain⟨p0,p1,p2,e0,e1,e2,um⟩:=(dP.out.ext cF).three;obtain⟨q0,q1,q2,f0,f1,f2,q8⟩:=iz.out.three;clear cF;go_wp2_with fail;go_meet;rw[dc.out];exact⟨rfl,_,_,_,_,_,_,_,iz.out.put3 _ _ _,VA.out.ku (KU.three iz.out _ _ _),sR.out.three (by rw[<-HVB.out];exact Nat.le_refl _) _ _ _⟩
       ·have hcn2:((cl:Int) == (q:Int))=false:=beq_eq_false_iff_ne.2 (by omega);go_wp2_with fail;refine(aT.out _).mono ?_
        rintro e eB ⟨rfl,rfl⟩;go_wp2_with fail;go_meet;rw[YB.out hcn];exact⟨rfl,_,_,_,_,_,_,_,oS.out,Ag.zero _ _,eH.out⟩
      ·have hXU:=aD.out (by simpa using qd);clear qd;go_wp2_with fail;go_meet;rw[hXU];exact⟨rfl,_,_,_,_,_,_,_,oS.out,Ag.zero _ _,eH.out⟩
     case rest=>
     obtain⟨rfl,f,G,gn,gj,Y,yn,yj,XB,Xr,wX⟩:=hcut;rename_i HK K0 x0 x1 x2 x3 x4 wcx;refine HK _ _ ?_
     clear HK x0 x1 x2 x3 x4 jv lr aD oA HNR oS q0 q1 q2 f0 f1 f2 q8 n0 n1 n2 n3 n4;generalize wc=wd at *;obtain⟨pG,kP,nz⟩:=Ye.out.ext wX;have pA:=Yl.out.ext wX;unfold B4 at pA;rw[mP.out]at kP pA;have hT:TR w wd wd (.slice AV k cV) (.slice AS k cS) k k pG (T.map fun x=>Value.int .i64 (x.st:Int)):=⟨i3.out.trans wX,KU.refl _,kP,pA⟩;have HT:=hid hT;have uf:=hid nz;have wG:=hid Xr;have ot:Hid (∃st:Int,(X.st:Int)=st):=hid ⟨_,rfl⟩;obtain⟨st,hst⟩:=ot.out;rw[hst];have VV:=hid hst;obtain⟨q0,q1,q2,f0,f1,f2,q8⟩:=XB.three;clear hT kP pA nz Xr wX hst Ye Yl XB;go_wp2_with (at_builtin;go_must (first
      |(refine wpList_append_own _ rfl _ _ 54 rfl w.heap.size 26 i0 _ 3 56 Tryz.underlying54 jM.out.1 jM.out.2.1 jM.out.2.2.1 jM.out.2.2.2 rfl (by decide) _ k pG rfl (HT.out.ext ((Ext.refl wd).alloc _)).r ⟨wd.heap.size,0,none⟩ 1 1 [.bool f,.slice G gn gj,.slice Y yn yj] rfl rfl (World.news_of_block (Blk.new wd _ _)) IH (by unfold maxLen;omega) (by omega) (HT.out.ext ((Ext.refl wd).alloc _)).e.size ?_;intro v6 w6 iC iU _;have VQ:=hid ((HT.out.ext ((Ext.refl wd).alloc _)).row iU iC);clear iC iU)
      |(refine wpList_append_own _ rfl _ _ 41 rfl w.heap.size 3 j0 _ 1 8 Tryz.underlying41 jL.out.1 jL.out.2.1 jL.out.2.2.1 jL.out.2.2.2 rfl (by decide) _ k _ rfl (VQ.out.ext ((Ext.refl w6).alloc _)).s ⟨w6.heap.size,0,none⟩ 1 1 [.int .i64 st] rfl rfl (World.news_of_block (Blk.new w6 _ _)) IN (by unfold maxLen;omega) (by omega) (VQ.out.ext ((Ext.refl w6).alloc _)).e.size ?_;intro v7 w7 mL jG _;have VP:=hid ((VQ.out.ext ((Ext.refl w6).alloc _)).col jG mL);clear mL jG)))
     go_roundw
     ·exact⟨k+1,Wj.out,by go_num,by rw[Yc.out];exact BO.tr (by rw[mP.out];exact VP.out) uf.out wG.out,by rw[Yc.out];exact B4.tr (x:=X) (by rw[mP.out,VV.out];exact VP.out),VP.out.e⟩
     ·simp only[intOf];omega
  ·obtain rfl:k=n:=by omega
   rw[show ns.take k=ns from List.take_of_length_le (by rw[<-kh.out];exact Nat.le_refl _)]at pq mI;go_wp2_with fail;go_ret2;exact⟨_,_,rfl,pq,mI,hx⟩
theorem Pj(B g:Nat)(w:World)(ns:List Nd)(rv:Value)(h:GrR B g w ns rv)(i:Nat)(hi:i<ns.length):
  Calls Tryz.prog 30 #[.pointer (some ⟨g,0,none⟩),.int .i64 (i:Int)] w (Cy ((CA ns).getD i X2.O) w):=by
 have HH:=hid (fun W hx=>OF B g W ns rv (h.keep (w':=W) hx) (i:Int));rw[decide_eq_true (show (0:Int)<=(i:Int)/\(i:Int)<(ns.length:Int) by omega)]at HH;have qG:=hid (fun W hx=>Nk B g W ns rv (h.keep (w':=W) hx));unfold LB at qG;have HI:=hid hi;have mP:=hid (Gm ns);clear h;generalize hX:(CA ns).getD i X2.O=X at *;have ju:=hid hX;clear hX;unfold Cy;have ak:=hid (Blk.new w 26 #[.bool false,.slice none 0 0,.slice none 0 0]);have cq:=hid ((Ext.refl w).alloc (.cells #[.bool false,.slice none 0 0,.slice none 0 0] 26));obtain⟨w1,aZ⟩:∃w1,w1=w.alloc (.cells #[.bool false,.slice none 0 0,.slice none 0 0] 26):=⟨_,rfl⟩;rw[<-aZ]at ak cq;go_enter Tryz.func30,Tryz.ntmps30;go_upto_region 1 with fail;rw[<-aZ];clear aZ;go_wp2_with fail;refine(HH.out w1 cq.out).mono ?_
 rintro e w2 ⟨rfl,hx⟩;have HX:=hid (cq.out.trans hx);have HB:=hid (ak.out.ext hx);clear hx HH;go_wp2_with fail;have mG:=HB.out.lt;refine(qG.out w2 HX.out).mono ?_
 rintro e w3 ⟨vv,sv,rfl,pq,mI,hx⟩;have HX:=hid (HX.out.trans hx);have HB:=hid (HB.out.ext hx);obtain⟨gv,cv,rfl,hgv1,vl,bb,A1,n1,k1,A2,n2,k2,xd,tQ⟩:=pq.at (i:=i) (by rw[mP.out];exact HI.out);obtain⟨gs,cs,rfl,hgs1,rY,el⟩:=mI.at (i:=i) (by rw[mP.out];exact HI.out);rw[mP.out];rw[ju.out]at tQ el;have hii:(i:Int)<(ns.length:Int):=by omega
 have aB:(0:Int)<=(i:Int):=by omega
 have R9:=hid tQ;obtain⟨r0,r1,r2⟩:=xd;obtain⟨st,hst⟩:∃st:Int,(X.st:Int)=st:=⟨_,rfl⟩;rw[hst]at el;have bG:=hid hst;have q0:=HB.out.three;have uP:¬gs=w.heap.size:=by omega
 have hne2:¬w.heap.size=gs:=by omega
 have Z0:¬gv=w.heap.size:=by omega
 have rD:¬w.heap.size=gv:=by omega
 clear hx tQ hst qG pq mI hi;go_upto_region 4 with fail;go_region
 all_goals
  go_wp2_with fail;obtain⟨aj,ac,hr2⟩:=Ah HB.out (.bool bb) (.slice A1 n1 k1) (.slice A2 n2 k2);refine bodyPost_ret (v:= .tuple #[.agg #[.bool bb,.slice A1 n1 k1,.slice A2 n2 k2],.int .i64 st]) (by simp[results,Tryz.results30,go_sem,aj,ac,hr2]) rfl ?_
  exact⟨_,by rw[bG.out],(R9.out.ku (KU.three HB.out _ _ _)).ku (KU.of_ext (Ext.refl _).drew),(HX.out.three (Nat.le_refl _) _ _ _).drew⟩
theorem Py(w:World)(v:Value)(e:Ex)(h:RNd w v (Ak 0 e))(hg:e.Good)(bK:e.size<=200)(iW:e.depth<=40):
  Calls Tryz.prog 17 #[v] w (Cy (exX e) w):=by
 have HV:=hid h;have HG:=hid hg;have gQ:=hid (AH.add e hg [] AH.nil);have eJ:=hid (MS e []);have jd:=hid (GU e []);obtain⟨A,c,rfl,_⟩:=h;unfold Cy;have ak:=hid (Blk.new w 26 #[.bool false,.slice none 0 0,.slice none 0 0]);have cq:=hid ((Ext.refl w).alloc (.cells #[.bool false,.slice none 0 0,.slice none 0 0] 26));obtain⟨w1,aZ⟩:∃w1,w1=w.alloc (.cells #[.bool false,.slice none 0 0,.slice none 0 0] 26):=⟨_,rfl⟩;rw[<-aZ]at ak cq;generalize hX:exX e=X at *;have ju:=hid hX;clear hg hX;go_enter Tryz.func17,Tryz.ntmps17;go_upto_region 1 with fail;rw[<-aZ];clear aZ;have kj:=hid (Blk.new w1 71 #[.slice none 0 0]);have ae:=(Ext.refl w1).alloc (.cells #[.slice none 0 0] 71);go_upto_region 2 with fail;generalize w1.alloc (.cells #[.slice none 0 0] 71)=w2 at *;have HF:=hid (Ec.old (nv:= .slice none 0 0) (g:=w1.heap.size) (b:=w1.heap.size) (HV.out.ext cq.out) ae (Nat.le_refl _) (Nat.le_refl _) (fun j hj=>by cases hj));have fd:Hid (GrR w1.heap.size w1.heap.size w2 [] (.slice none 0 0)):=hid ⟨kj.out,AU.nil _ _,Nat.le_refl _,AH.nil,by decide⟩;have HX:=hid (cq.out.trans ae);have HB:=hid (ak.out.ext ae);have pV:Hid (w.heap.size<w1.heap.size):=hid ak.out.lt;have xz:Hid (w.heap.size<=w1.heap.size):=hid cq.out.size;generalize w1.heap.size=g at *;have kK:=hid (Rm g g w2 [] (.slice none 0 0) _ e fd.out HF.out HG.out bK iW (by rw[List.length_nil];omega));unfold MZ at kK;clear kj ae cq ak;go_wp2_with fail;refine kK.out.mono ?_
 rintro r w4 ⟨Zc,rfl,ep,o8⟩;have ke:=ep.belowR fd.out;have bw:=hid (HX.out.more (Below.mono ke xz.out));have gJ:=hid (show Blk w4 w.heap.size 26 #[.bool false,.slice none 0 0,.slice none 0 0] from (ke.block _ pV.out).trans HB.out);have fZ:=hid (Pj g g w4 (Bg [] e).2 Zc o8 (Bg [] e).1 jd.out);rw[LN gQ.out HG.out eJ.out,ju.out]at fZ;unfold Cy at fZ;clear ke ep o8 kK;generalize (Bg [] e).1=id at *;go_wp2_with fail;refine fZ.out.mono ?_
 rintro r w5 ⟨v5,rfl,dV,hx⟩;have dr:=hid (bw.out.trans hx);have gI:=hid (gJ.out.ext hx);have R5:=hid dV;obtain⟨f5,g5,G5,j5,y5,Y5,z5,rfl⟩:=dV.shape;clear dV hx fZ;have q0:=gI.out.three;go_wp2_with fail;obtain⟨aj,ac,hr2⟩:=Ah gI.out (.bool f5) (.slice G5 g5 j5) (.slice Y5 y5 z5);refine bodyPost_ret (v:= .tuple #[.agg #[.bool f5,.slice G5 g5 j5,.slice Y5 y5 z5],.int .i64 (X.st:Int)]) (by simp[results,Tryz.results17,go_sem,aj,ac,hr2]) rfl ?_
 exact⟨_,rfl,R5.out.ku (KU.three gI.out _ _ _),dr.out.three (Nat.le_refl _) _ _ _⟩
end Big
end Go.Proofs.YtkoaogkknnelaaaGreatDoor
