import Derived.Test.YtkoaogkknnelaaaGreatDoorM23
import Derived.Maps.Own
import Derived.DeepKeys4
import Derived.ChangeMaps
set_option linter.unusedVariables false
set_option linter.unusedSimpArgs false
set_option maxRecDepth 100000
namespace Go.Proofs.YtkoaogkknnelaaaGreatDoor
namespace Big
open Lib renaming hid → J
open Go.RowKit
theorem R6(l:List Nd):∀(i:Nat) (all st:List (Nat × Nat)),(GB i all st l).2≠0->(GB i all st l).1.length=all.length+l.length:=by
 induction l with
 |nil=>intro i all st _;rfl
 |cons x t ih=>
  intro i all st h;rw[GB]at h ⊢;cases hs:AM i st x with
  |none=>rw[hs]at h;exact absurd rfl h
  |some q=>
   obtain⟨p,st'⟩:=q;rw[hs]at h;simp only at h ⊢;rw[ih _ _ _ h,qab,qat];simp;omega
theorem N6(w:World)(v:Value)(l:List Nd)(hr:RNd w v l)(hl:l.length<=1000000)(dy:∀x∈l,x.text.length<=1073741824)(hm:BT w):Calls Tryz.prog 68 #[v] w fun e w'=>e= .returned (.bool (Hn l))/\Ext w w':=by
 have HS:=J (Qi w v l hr hl dy hm);have HV:Hid (Hn l=(decide (1<=l.length/\l.length<=200) && (decide ((DG l).2=1) && decide (((DG l).1.getD (l.length-1) (0,0)).2<=40)))):=J rfl;have bI:Hid ((DG l).2≠0->(DG l).1.length=l.length):=J (fun h=>by have:=R6 l 0 [] [] h;rw[qaE,qaF]at this;exact this);obtain⟨A,c,rfl,_⟩:=hr;generalize Hn l=r at *;clear dy hm;obtain⟨n,hn⟩:∃n,n=l.length:=⟨_,rfl⟩;rw[<-hn]at hl HV HS bI ⊢;clear hn;by_cases h1:n<1
 ·obtain rfl:n=0:=by omega
  clear HS h1 bI;go_enter Tryz.func68,Tryz.ntmps68;go_wp2_with fail;go_ret;exact⟨by rw[HV.o];rfl,Ext.refl w⟩
 ·have h1c:¬((n:Int)<1):=by omega
  by_cases h2:200<n
  ·have Wc:(200:Int)<(n:Int):=by omega
   have hd:decide (1<=n/\n<=200)=false:=decide_eq_false (by omega);rw[hd]at HV;clear HS h1 h2 hd bI;go_enter Tryz.func68,Tryz.ntmps68;go_wp2_with fail;go_ret;exact⟨by rw[HV.o];rfl,Ext.refl w⟩
  ·have Wc:¬(200:Int)<(n:Int):=by omega
   have hd:decide (1<=n/\n<=200)=true:=decide_eq_true (by omega);rw[hd,qaQ]at HV;have h1n:1<=n:=by omega
   clear h1 h2 hd;unfold Ld at HS;generalize (DG l).2=cnt at *;generalize (DG l).1=all at *;go_enter Tryz.func68,Tryz.ntmps68;go_wp2_with fail;refine HS.o.mono ?_
   rintro e w1 ⟨v1,rfl,hx,au⟩;have HX:=J hx;have cr:=J au;obtain⟨A4,c4,rfl⟩:=Ao au;clear hx au;by_cases hc1:cnt=1
   ·subst hc1;have hal:=bI.o (by decide);obtain⟨g4,d4,gg,_,_⟩:=cr.o.form (by omega);injection gg with gg he5 he6
    subst gg;clear he5 he6;have fQ:=cr.o;rw[hal]at fQ;have aa:=(CV.get fQ (n-1) (by omega)).2;obtain⟨y,hy⟩:∃y:Int,y=(n:Int)-1:=⟨_,rfl⟩;have hj:y.toNat=n-1:=by omega
    rw[<-hj]at aa HV;have hw:IntKind.i64.wrap ((n:Int)-1)=y:=by rw[IntWalk.i64_in _ (by omega),hy]
    have pV:(0:Int)<=y:=by omega
    have jr:y<(n:Int):=by omega
    have hdv:decide ((all.getD y.toNat (0,0)).2<=40)=decide (((all.getD y.toNat (0,0)).2:Int)<=40):=by rw[decide_eq_decide];omega
    have yQ:Hid (r=decide (((all.getD y.toNat (0,0)).2:Int)<=40)):=J (by rw[HV.o,<-hdv];rfl);generalize (all.getD y.toNat (0,0)).2=dv at *;rw[hal];clear fQ hj hy hdv hal HV bI;go_wp2_with fail;go_ret;exact⟨by rw[yQ.o];rfl,HX.o⟩
   ·have oT:((cnt:Int) == 1)=false:=by rw[beq_eq_false_iff_ne];omega
    have qY:Hid (r=false):=J (by rw[HV.o,decide_eq_false hc1];rfl);generalize all.length=m at *;clear hc1 HV bI;generalize (cnt:Int)=cz at *;go_wp2_with fail;go_ret;exact⟨by rw[qY.o];rfl,HX.o⟩
theorem JN(e:Ex)(hg:e.Well):∀off,∀x∈Ag off e,x.text.length<=1073741824:=by
 induction e with
 |leaf k t=>
  intro off x hx;rw[Ag,qav]at hx;subst hx;rcases hg with ⟨_,h⟩|⟨_,h⟩|⟨_,rfl⟩
  ·have:=Ni h;simp only;omega
  ·have:=EM (qbu.1 h).1;simp only;omega
  ·simp
 |un k n x ih=>
  intro off y hy;rw[Ag,qax,qav]at hy;rcases hy with hy|rfl
  ·exact ih hg.2.2.2.2 off y hy
  ·simp
 |bin k x z ihx ihy=>
  intro off y hy;rw[Ag,qax,qax,qav]at hy;rcases hy with hy|hy|rfl
  ·exact ihx hg.2.1 _ y hy
  ·exact ihy hg.2.2 _ y hy
  ·simp
def EJ(s:List UInt8):Option Ex × Nat × Nat:=
 if (Bj s).2.2≠0 then (none,(Bj s).2.1,(Bj s).2.2)
 else if (Bh (Bj s).1 ((Bj s).1.length+1) 0).2<(Bj s).1.length then (none,((Bj s).1.getD (Bh (Bj s).1 ((Bj s).1.length+1) 0).2 ⟨0,0,[]⟩).at_,6)
 else match (Bh (Bj s).1 ((Bj s).1.length+1) 0).1 with
  |none=>(none,s.length,6)
  |some x=>if x.big=false/\x.size<=200/\x.depth<=40 then (some x,s.length,0) else (none,0,7)
def TB:Option Ex->List Nd
 |none=>[]
 |some x=>Ag 0 x
theorem RNd.nil(w:World):RNd w (.slice none 0 0) []:=⟨none,0,rfl,fun h=>by simp at h⟩
instance:DecidableEq Nd:=fun x y=>decidable_of_iff (x.kind=y.kind/\x.a=y.a/\x.b=y.b/\x.n=y.n/\x.text=y.text) (by
 obtain⟨a0,a1,a2,a3,a4⟩:=x;obtain⟨b0,b1,b2,b3,b4⟩:=y;simp only[Nd.mk.injEq])
def Cz(x:Nd):List Nd->Nat
 |[]=>0
 |y::l=>if y=x then 0 else Cz x l+1
theorem FM(x y:Nd)(l:List Nd):Cz x (y::l)=if y=x then 0 else Cz x l+1:=rfl
theorem KQ{l:List Nd}(hn:l.Nodup){i j:Nat}(hi:i<l.length)(hj:j<l.length)(h:l[i]=l[j]):i=j:=by
 rcases qca i j with h1|h1|h1
 ·exact absurd h (qcr.1 hn i j hi hj h1)
 ·exact h1
 ·exact absurd h.symm (qcr.1 hn j i hj hi h1)
theorem Dy{x:Nd}:∀{l:List Nd},x∈l->Cz x l<l.length
 |y::l,h=>by
  unfold Cz;split
  ·simp
  ·rename_i hne;rcases qay.1 h with h|h
   ·exact absurd h.symm hne
   ·have:=Dy h;simp only[qat];omega
theorem Ir{x:Nd}:∀{l:List Nd},x∈l->l[Cz x l]? =some x
 |y::l,h=>by
  by_cases he:y=x
  ·rw[FM,if_pos he,he];rfl
  ·rw[FM,if_neg he];rcases qay.1 h with h|h
   ·exact absurd h.symm he
   ·rw[List.getElem?_cons_succ];exact Ir h
theorem Jl{x:Nd}{l:List Nd}(hm:x∈l):l[Cz x l]'(Dy hm)=x:=by
 have:=Ir hm;rw[qaa (Dy hm)]at this;injection this
theorem KL{l:List Nd}(hn:l.Nodup){i:Nat}(h:i<l.length):Cz l[i] l=i:=by
 have hm:=Dy (qap h);exact KQ hn hm h (Jl (qap h))
def Bc(ns:List Nd)(x:Nd):Nat × List Nd:=if x∈ns then (Cz x ns,ns) else (ns.length,ns++[x])
theorem Pe(ns:List Nd)(x:Nd):(Bc ns x).1<(Bc ns x).2.length:=by
 unfold Bc;split
 ·exact Dy ‹_›
 ·simp
theorem GU(ns:List Nd)(x:Nd):(Bc ns x).2[(Bc ns x).1]? =some x:=by
 unfold Bc;split
 ·rename_i h;have h1:=Dy h;rw[qaa h1,Jl h]
 ·simp
theorem N7{ns:List Nd}(h:ns.Nodup)(x:Nd):(Bc ns x).2.Nodup:=by
 unfold Bc;split
 ·exact h
 ·rename_i hx;rw[List.nodup_append];refine⟨h,by simp,fun a ha b hb=> ?_⟩;rw[qav]at hb;subst hb;exact fun e=>hx (e ▸ ha)
theorem Cv(ns:List Nd)(x:Nd):ns <+: (Bc ns x).2:=by
 unfold Bc;split
 ·exact qcf _
 ·exact List.prefix_append _ _
theorem GT(ns:List Nd)(x:Nd):(Bc ns x).2.length<=ns.length+1:=by
 unfold Bc;split<;>simp
theorem FL{ns:List Nd}(hn:ns.Nodup){i:Nat}{x:Nd}(h:ns[i]? =some x):Bc ns x=(i,ns):=by
 obtain⟨hi,he⟩:=qai.1 h;unfold Bc;have hm:x∈ns:=he ▸ qap hi;rw[if_pos hm];subst he;rw[KL hn hi]
def AC:List Nd->Ex->Nat × List Nd
 |ns,.leaf k t=>Bc ns ⟨(k:Int),0,0,0,t⟩
 |ns,.un k n x=>Bc (AC ns x).2 ⟨(k:Int),((AC ns x).1:Int),0,n,[]⟩
 |ns,.bin k x y=>Bc (AC (AC ns x).2 y).2 ⟨(k:Int),((AC ns x).1:Int),((AC (AC ns x).2 y).1:Int),0,[]⟩
def Rep(ns:List Nd):Nat->Ex->Prop
 |i,.leaf k t=>ns[i]? =some ⟨(k:Int),0,0,0,t⟩
 |i,.un k n x=>∃j,Rep ns j x/\ns[i]? =some ⟨(k:Int),(j:Int),0,n,[]⟩
 |i,.bin k x y=>∃j q,Rep ns j x/\Rep ns q y/\ns[i]? =some ⟨(k:Int),(j:Int),(q:Int),0,[]⟩
theorem BD{ns ms:List Nd}(h:ns <+: ms){i:Nat}{x:Nd}(hx:ns[i]? =some x):ms[i]? =some x:=by
 obtain⟨t,rfl⟩:=h;obtain⟨hi,_⟩:=qai.1 hx;rw[qaC hi,hx]
theorem Rep.pre{ns ms:List Nd}(h:ns <+: ms):∀{e:Ex} {i:Nat},Rep ns i e->Rep ms i e
 | .leaf _ _,_,hr=>BD h hr
 | .un _ _ _,_,⟨j,hr,hx⟩=>⟨j,hr.pre h,BD h hx⟩
 | .bin _ _ _,_,⟨j,q,hr,hr2,hx⟩=>⟨j,q,hr.pre h,hr2.pre h,BD h hx⟩
theorem E0(e:Ex):∀ns,ns <+: (AC ns e).2:=by
 induction e with
 |leaf k t=>intro ns;exact Cv _ _
 |un k n x ih=>intro ns;exact(ih ns).trans (Cv _ _)
 |bin k x y ihx ihy=>intro ns;exact((ihx ns).trans (ihy _)).trans (Cv _ _)
theorem SZ(e:Ex):∀ns,(AC ns e).2.length<=ns.length+e.size:=by
 induction e with
 |leaf k t=>intro ns;exact GT _ _
 |un k n x ih=>
  intro ns;have h1:=ih ns;have h2:=GT (AC ns x).2 ⟨(k:Int),((AC ns x).1:Int),0,n,[]⟩;simp only[AC,Ex.size];omega
 |bin k x y ihx ihy=>
  intro ns;have h1:=ihx ns;have h2:=ihy (AC ns x).2;have h3:=GT (AC (AC ns x).2 y).2 ⟨(k:Int),((AC ns x).1:Int),((AC (AC ns x).2 y).1:Int),0,[]⟩;simp only[AC,Ex.size];omega
theorem Gh(e:Ex)(ns:List Nd):(AC ns e).1<(AC ns e).2.length:=by
 cases e<;>exact Pe _ _
theorem Ep(e:Ex):∀ns,Rep (AC ns e).2 (AC ns e).1 e:=by
 induction e with
 |leaf k t=>intro ns;exact GU _ _
 |un k n x ih=>intro ns;exact⟨_,(ih ns).pre (Cv _ _),GU _ _⟩
 |bin k x y ihx ihy=>intro ns;exact⟨_,_,((ihx ns).pre (E0 y _)).pre (Cv _ _),(ihy _).pre (Cv _ _),GU _ _⟩
theorem Rep.one{ns:List Nd}(hn:ns.Nodup):∀{e:Ex} {i j:Nat},Rep ns i e->Rep ns j e->i=j:=by
 have key:∀{i j:Nat} {x:Nd},ns[i]? =some x->ns[j]? =some x->i=j:=by
  intro i j x hi hj;have h1:=FL hn hi;rw[FL hn hj]at h1;injection h1 with h1
  exact h1.symm
 intro e
 induction e with
 |leaf k t=>intro i j hi hj;exact key hi hj
 |un k n x ih=>
  rintro i j ⟨p,hp,hi⟩ ⟨q,hq,hj⟩;obtain rfl:=ih hp hq;exact key hi hj
 |bin k x y ihx ihy=>
  rintro i j ⟨p,p',hp,hp',hi⟩ ⟨q,q',hq,hq',hj⟩;obtain rfl:=ihx hp hq;obtain rfl:=ihy hp' hq';exact key hi hj
theorem Rep.same{ns:List Nd}:∀{e e':Ex} {i:Nat},e.Good->e'.Good->Rep ns i e->Rep ns i e'->e=e':=by
 intro e
 induction e with
 |leaf k t=>
  intro e' i hg kV h h';have h0:ns[i]? =some ⟨(k:Int),0,0,0,t⟩:=h
  cases e' with
  |leaf k' t'=>
   have h1:ns[i]? =some ⟨(k':Int),0,0,0,t'⟩:=h'
   rw[h0]at h1;simp only[qaw,Nd.mk.injEq]at h1;have:k=k':=by omega
   rw[this,h1.2.2.2.2]
  |un k' n' x'=>
   obtain⟨j,_,h1⟩:=h';rw[h0]at h1;simp only[qaw,Nd.mk.injEq]at h1;have:=kV.1;rcases hg with ⟨h,_⟩|⟨h,_⟩|⟨h,_⟩<;>omega
  |bin k' x' y'=>
   obtain⟨j,q,_,_,h1⟩:=h';rw[h0]at h1;simp only[qaw,Nd.mk.injEq]at h1;have:=kV.1;rcases hg with ⟨h,_⟩|⟨h,_⟩|⟨h,_⟩<;>omega
 |un k n x ih=>
  intro e' i hg kV h h';obtain⟨j,hr,h0⟩:=h;cases e' with
  |leaf k' t'=>
   have h1:ns[i]? =some ⟨(k':Int),0,0,0,t'⟩:=h'
   rw[h0]at h1;simp only[qaw,Nd.mk.injEq]at h1;have:=hg.1;rcases kV with ⟨h,_⟩|⟨h,_⟩|⟨h,_⟩<;>omega
  |un k' n' x'=>
   obtain⟨j',wk,h1⟩:=h';rw[h0]at h1;simp only[qaw,Nd.mk.injEq]at h1;have hk:k=k':=by omega
   have hj:j=j':=by omega
   subst hj;rw[hk,h1.2.2.2.1,ih hg.2.2.2.2 kV.2.2.2.2 hr wk]
  |bin k' x' y'=>
   obtain⟨j',q,_,_,h1⟩:=h';rw[h0]at h1;simp only[qaw,Nd.mk.injEq]at h1;have:=hg.1;have:=kV.1;omega
 |bin k x y ihx ihy=>
  intro e' i hg kV h h';obtain⟨j,q,hr,hr2,h0⟩:=h;cases e' with
  |leaf k' t'=>
   have h1:ns[i]? =some ⟨(k':Int),0,0,0,t'⟩:=h'
   rw[h0]at h1;simp only[qaw,Nd.mk.injEq]at h1;have:=hg.1;rcases kV with ⟨h,_⟩|⟨h,_⟩|⟨h,_⟩<;>omega
  |un k' n' x'=>
   obtain⟨j',_,h1⟩:=h';rw[h0]at h1;simp only[qaw,Nd.mk.injEq]at h1;have:=hg.1;have:=kV.1;omega
  |bin k' x' y'=>
   obtain⟨j',q',wk,US,h1⟩:=h';rw[h0]at h1;simp only[qaw,Nd.mk.injEq]at h1;have hk:k=k':=by omega
   have hj:j=j':=by omega
   have hq:q=q':=by omega
   subst hj;subst hq;rw[hk,ihx hg.2.1 kV.2.1 hr wk,ihy hg.2.2 kV.2.2 hr2 US]
theorem SY{ns:List Nd}(hn:ns.Nodup):∀{e:Ex} {i:Nat},Rep ns i e->AC ns e=(i,ns):=by
 intro e
 induction e with
 |leaf k t=>intro i h;exact FL hn h
 |un k n x ih=>
  rintro i ⟨j,hr,h⟩;have h1:=ih hr;simp only[AC,h1];exact FL hn h
 |bin k x y ihx ihy=>
  rintro i ⟨j,q,hr,hr2,h⟩;have h1:=ihx hr;have h2:=ihy hr2;simp only[AC,h1,h2];exact FL hn h
def Ik(s:List Nat × List Nd)(x:Nd):List Nat × List Nd:=
 (s.1++[(Bc s.2 ⟨x.kind,if 5<=x.kind then ((s.1.getD x.a.toNat 0:Nat):Int) else x.a,if 6<=x.kind/\x.kind<=9 then ((s.1.getD x.b.toNat 0:Nat):Int) else x.b,x.n,x.text⟩).1],
  (Bc s.2 ⟨x.kind,if 5<=x.kind then ((s.1.getD x.a.toNat 0:Nat):Int) else x.a,if 6<=x.kind/\x.kind<=9 then ((s.1.getD x.b.toNat 0:Nat):Int) else x.b,x.n,x.text⟩).2)
def BJ(s:List Nat × List Nd)(l:List Nd):List Nat × List Nd:=l.foldl Ik s
theorem BM(l:List Nat)(x:Nat){i:Nat}(h:i=l.length):(l++[x]).getD i 0=x:=by
 subst h;rw[qac,qao (qad _),qaX];rfl
theorem Cq(l m:List Nat){i:Nat}(h:i<l.length):(l++m).getD i 0=l.getD i 0:=by
 rw[qac,qac,qaC h]
theorem OJ(e:Ex)(hg:e.Good):∀(ids:List Nat) (ns:List Nd),∃more:List Nat,more.length+1=e.size/\BJ (ids,ns) (Ag ids.length e)=((ids++more)++[(AC ns e).1],(AC ns e).2):=by
 induction e with
 |leaf k t=>
  intro ids ns;have hk:k<5:=by rcases hg with ⟨h,_⟩|⟨h,_⟩|⟨h,_⟩<;>omega
  refine⟨[],rfl,?_⟩;simp only[BJ,Ag,qbd,qcn,Ik,qaW];rw[if_neg (by omega),if_neg (by omega)];rfl
 |un k n x ih=>
  intro ids ns;obtain⟨more,hm,hf⟩:=ih hg.2.2.2.2 ids ns;have hx:=x.size_pos;have hk:=hg.1;refine⟨more++[(AC ns x).1],by simp only[qab,qae,Ex.size];omega,?_⟩;rw[Ag,BJ,qaO];rw[BJ]at hf;rw[hf];have hl:ids.length+x.size-1=(ids++more).length:=by rw[qab];omega
  have h1:((ids++more)++[(AC ns x).1]).getD (((ids.length+x.size-1:Nat):Int)).toNat 0=(AC ns x).1:=BM _ _ (by rw[qaq];exact hl);simp only[qbd,qcn,Ik,h1];rw[if_pos (by omega),if_neg (by omega)];simp only[AC,qan]
 |bin k x y ihx ihy=>
  intro ids ns;obtain⟨m1,jP,en⟩:=ihx hg.2.1 ids ns;obtain⟨m2,cZ,nC⟩:=ihy hg.2.2 ((ids++m1)++[(AC ns x).1]) (AC ns x).2;have hx:=x.size_pos;have hy:=y.size_pos;have hk:=hg.1;have ak:((ids++m1)++[(AC ns x).1]).length=ids.length+x.size:=by simp only[qab,qae];omega
  rw[ak]at nC;refine⟨m1++[(AC ns x).1]++m2++[(AC (AC ns x).2 y).1],by simp only[qab,qae,Ex.size];omega,?_⟩;rw[Ag,BJ,qaO,qaO];rw[BJ]at en nC;rw[en,nC];have hl:ids.length+x.size-1=(ids++m1).length:=by rw[qab];omega
  have hl2:ids.length+x.size+y.size-1=(((ids++m1)++[(AC ns x).1])++m2).length:=by rw[qab,ak];omega
  have h1:(((((ids++m1)++[(AC ns x).1])++m2)++[(AC (AC ns x).2 y).1])).getD (((ids.length+x.size-1:Nat):Int)).toNat 0=(AC ns x).1:=by
   rw[qaq,Cq _ _ (by rw[<-hl2];omega),Cq _ _ (by rw[ak];omega)];exact BM _ _ hl
  have h2:(((((ids++m1)++[(AC ns x).1])++m2)++[(AC (AC ns x).2 y).1])).getD (((ids.length+x.size+y.size-1:Nat):Int)).toNat 0=(AC (AC ns x).2 y).1:=BM _ _ (by rw[qaq];exact hl2);simp only[qbd,qcn,Ik,h1,h2];rw[if_pos (by omega),if_pos (by omega)];simp only[AC,qan]
structure F1 (x:Nd):Prop where
 kind:(Lit.int .i64 x.kind).wf=true
 a:(Lit.int .i64 x.a).wf=true
 b:(Lit.int .i64 x.b).wf=true
 n:(Lit.int .i64 x.n).wf=true
 text:x.text.length<=maxLen
theorem QK:laidOutB Tryz.prog=true:=by kernel_rfl
theorem El:Go.Maps.Keyed Tryz.prog 95:=
 Go.Maps.Keyed.of_law (deep_law_laid QK (m:=3) (by omega) (of_decide_eq_true (by kernel_rfl)) (by kernel_rfl) (by rw[Tryz.underlying95]))
theorem LI:Tryz.prog.keyType 95=true:=by kernel_rfl
theorem JT:Tryz.prog.cellsOf 95=5:=by kernel_rfl
theorem Rd:Tryz.prog.cellsOf 3=1:=by kernel_rfl
theorem LS:Tryz.prog.cellsOf 9=1:=by kernel_rfl
theorem JE(x:Nd)(h:F1 x):∃l,keyOf Tryz.prog 95 (ndV x)=some l:=by
 have hs:(⟨x.text.toArray⟩:ByteArray).size<=maxLen:=by
  have:=h.text;rw[Cl];exact this
 obtain⟨m,hm⟩:∃m,Tryz.prog.types.size=m+1:=⟨Tryz.prog.types.size-1,by
  have:0<Tryz.prog.types.size:=of_decide_eq_true (by kernel_rfl);omega⟩
 obtain⟨q0,q1,q2,q3,_⟩:=h;refine Option.isSome_iff_exists.1 ?_
 unfold keyOf;rw[Tryz.underlying95];simp only[LI,qaQ];rw[if_pos (by simp[ndV,Value.formed,Tryz.underlying95,JT]),hm];unfold Program.keyLits;rw[Tryz.underlying95];simp[ndV,Value.cells,JT,Rd,LS,Program.keyLits,Tryz.underlying3,Tryz.underlying9,str,hs,q0,q1,q2,q3]
end Big
end Go.Proofs.YtkoaogkknnelaaaGreatDoor
