import Derived.Test.YtkoaogkknnelaaaGreatDoorM23
import Derived.Maps.Own
import Derived.DeepKeys4
import Derived.ChangeMaps
set_option linter.unusedVariables false
set_option linter.unusedSimpArgs false
set_option maxRecDepth 100000
namespace Go.Proofs.YtkoaogkknnelaaaGreatDoor
namespace Big
open Lib renaming hid → J
open Go.RowKit
theorem Rq(l:List Nd):∀(i:Nat) (all st:List (Nat × Nat)),(GJ i all st l).2≠0->(GJ i all st l).1.length=all.length+l.length:=by
 induction l with
 |nil=>intro i all st _;rfl
 |cons x t ih=>
  intro i all st h;rw[GJ]at h ⊢;cases hs:AP i st x with
  |none=>rw[hs]at h;exact absurd rfl h
  |some q=>
   obtain⟨p,st'⟩:=q;rw[hs]at h;simp only at h ⊢;rw[ih _ _ _ h,List.length_append,List.length_cons];simp;omega
theorem NS(w:World)(v:Value)(l:List Nd)(hr:RNd w v l)(hl:l.length<=1000000)(cd:∀x∈l,x.text.length<=1073741824)(hm:BC w):Calls Tryz.prog 68 #[v] w fun e w'=>e= .returned (.bool (Hq l))/\Ext w w':=by
 have HS:=J (PR w v l hr hl cd hm);have HV:Hid (Hq l=(decide (1<=l.length/\l.length<=200) && (decide ((DT l).2=1) && decide (((DT l).1.getD (l.length-1) (0,0)).2<=40)))):=J rfl;have bF:Hid ((DT l).2≠0->(DT l).1.length=l.length):=J (fun h=>by have:=Rq l 0 [] [] h;rw[List.length_nil,Nat.zero_add]at this;exact this);obtain⟨A,c,rfl,_⟩:=hr;generalize Hq l=r at *;clear cd hm;obtain⟨n,hn⟩:∃n,n=l.length:=⟨_,rfl⟩;rw[<-hn]at hl HV HS bF ⊢;clear hn;by_cases h1:n<1
 ·obtain rfl:n=0:=by omega
  clear HS h1 bF;go_enter Tryz.func68,Tryz.ntmps68;go_wp2_with fail;go_ret;exact⟨by rw[HV.o];rfl,Ext.refl w⟩
 ·have Zs:¬((n:Int)<1):=by omega
  by_cases h2:200<n
  ·have Ux:(200:Int)<(n:Int):=by omega
   have hd:decide (1<=n/\n<=200)=false:=decide_eq_false (by omega);rw[hd]at HV;clear HS h1 h2 hd bF;go_enter Tryz.func68,Tryz.ntmps68;go_wp2_with fail;go_ret;exact⟨by rw[HV.o];rfl,Ext.refl w⟩
  ·have Ux:¬(200:Int)<(n:Int):=by omega
   have hd:decide (1<=n/\n<=200)=true:=decide_eq_true (by omega);rw[hd,Bool.true_and]at HV;have Zr:1<=n:=by omega
   clear h1 h2 hd;unfold Lg at HS;generalize (DT l).2=cnt at *;generalize (DT l).1=all at *;go_enter Tryz.func68,Tryz.ntmps68;go_wp2_with fail;refine HS.o.mono ?_
   rintro e w1 ⟨v1,rfl,hx,aH⟩;have HX:=J hx;have eV:=J aH;obtain⟨A4,c4,rfl⟩:=Am aH;clear hx aH;by_cases hc1:cnt=1
   ·subst hc1;have hal:=bF.o (by decide);obtain⟨g4,d4,fU,_,_⟩:=eV.o.form (by omega);injection fU with fU he5 he6
    subst fU;clear he5 he6;have pv:=eV.o;rw[hal]at pv;have ac:=(CZ.get pv (n-1) (by omega)).2;obtain⟨y,hy⟩:∃y:Int,y=(n:Int)-1:=⟨_,rfl⟩;have hj:y.toNat=n-1:=by omega
    rw[<-hj]at ac HV;have hw:IntKind.i64.wrap ((n:Int)-1)=y:=by rw[IntWalk.i64_in _ (by omega),hy]
    have rI:(0:Int)<=y:=by omega
    have jb:y<(n:Int):=by omega
    have hdv:decide ((all.getD y.toNat (0,0)).2<=40)=decide (((all.getD y.toNat (0,0)).2:Int)<=40):=by rw[decide_eq_decide];omega
    have xw:Hid (r=decide (((all.getD y.toNat (0,0)).2:Int)<=40)):=J (by rw[HV.o,<-hdv];rfl);generalize (all.getD y.toNat (0,0)).2=dv at *;rw[hal];clear pv hj hy hdv hal HV bF;go_wp2_with fail;go_ret;exact⟨by rw[xw.o];rfl,HX.o⟩
   ·have og:((cnt:Int) == 1)=false:=by rw[beq_eq_false_iff_ne];omega
    have qb:Hid (r=false):=J (by rw[HV.o,decide_eq_false hc1];rfl);generalize all.length=m at *;clear hc1 HV bF;generalize (cnt:Int)=cz at *;go_wp2_with fail;go_ret;exact⟨by rw[qb.o];rfl,HX.o⟩
theorem JT(e:Ex)(hg:e.Well):∀off,∀x∈Ag off e,x.text.length<=1073741824:=by
 induction e with
 |leaf k t=>
  intro off x hx;rw[Ag,List.mem_singleton]at hx;subst hx;rcases hg with ⟨_,h⟩|⟨_,h⟩|⟨_,rfl⟩
  ·have:=M6 h;simp only;omega
  ·have:=FC (Bool.and_eq_true_iff.1 h).1;simp only;omega
  ·simp
 |un k n x ih=>
  intro off y hy;rw[Ag,List.mem_append,List.mem_singleton]at hy;rcases hy with hy|rfl
  ·exact ih hg.2.2.2.2 off y hy
  ·simp
 |bin k x z ihx ihy=>
  intro off y hy;rw[Ag,List.mem_append,List.mem_append,List.mem_singleton]at hy;rcases hy with hy|hy|rfl
  ·exact ihx hg.2.1 _ y hy
  ·exact ihy hg.2.2 _ y hy
  ·simp
def DJ(s:List UInt8):Option Ex × Nat × Nat:=
 if (Bh s).2.2≠0 then (none,(Bh s).2.1,(Bh s).2.2)
 else if (Be (Bh s).1 ((Bh s).1.length+1) 0).2<(Bh s).1.length then (none,((Bh s).1.getD (Be (Bh s).1 ((Bh s).1.length+1) 0).2 ⟨0,0,[]⟩).at_,6)
 else match (Be (Bh s).1 ((Bh s).1.length+1) 0).1 with
  |none=>(none,s.length,6)
  |some x=>if x.big=false/\x.size<=200/\x.depth<=40 then (some x,s.length,0) else (none,0,7)
def O6:Option Ex->List Nd
 |none=>[]
 |some x=>Ag 0 x
def T0(w:World)(s:List UInt8)(e:Ending)(w':World):Prop:=
 ∃v,e= .returned (.tuple #[v,.int .i64 ((DJ s).2.1:Int),.int .i64 ((DJ s).2.2:Int)])/\Ext w w'/\RNd w' v (O6 (DJ s).1)
theorem RNd.nil(w:World):RNd w (.slice none 0 0) []:=⟨none,0,rfl,fun h=>by simp at h⟩
instance:DecidableEq Nd:=fun x y=>decidable_of_iff (x.kind=y.kind/\x.a=y.a/\x.b=y.b/\x.n=y.n/\x.text=y.text) (by
 obtain⟨a0,a1,a2,a3,a4⟩:=x;obtain⟨b0,b1,b2,b3,b4⟩:=y;simp only[Nd.mk.injEq])
def Cq(x:Nd):List Nd->Nat
 |[]=>0
 |y::l=>if y=x then 0 else Cq x l+1
theorem FM(x y:Nd)(l:List Nd):Cq x (y::l)=if y=x then 0 else Cq x l+1:=rfl
theorem KO{l:List Nd}(hn:l.Nodup){i j:Nat}(hi:i<l.length)(hj:j<l.length)(h:l[i]=l[j]):i=j:=by
 rcases Nat.lt_trichotomy i j with h1|h1|h1
 ·exact absurd h (List.pairwise_iff_getElem.1 hn i j hi hj h1)
 ·exact h1
 ·exact absurd h.symm (List.pairwise_iff_getElem.1 hn j i hj hi h1)
theorem DI{x:Nd}:∀{l:List Nd},x∈l->Cq x l<l.length
 |y::l,h=>by
  unfold Cq;split
  ·simp
  ·rename_i hne;rcases List.mem_cons.1 h with h|h
   ·exact absurd h.symm hne
   ·have:=DI h;simp only[List.length_cons];omega
theorem Ix{x:Nd}:∀{l:List Nd},x∈l->l[Cq x l]? =some x
 |y::l,h=>by
  by_cases he:y=x
  ·rw[FM,if_pos he,he];rfl
  ·rw[FM,if_neg he];rcases List.mem_cons.1 h with h|h
   ·exact absurd h.symm he
   ·rw[List.getElem?_cons_succ];exact Ix h
theorem Jt{x:Nd}{l:List Nd}(hm:x∈l):l[Cq x l]'(DI hm)=x:=by
 have:=Ix hm;rw[List.getElem?_eq_getElem (DI hm)]at this;injection this
theorem KL{l:List Nd}(hn:l.Nodup){i:Nat}(h:i<l.length):Cq l[i] l=i:=by
 have hm:=DI (List.getElem_mem h);exact KO hn hm h (Jt (List.getElem_mem h))
def AN(ns:List Nd)(x:Nd):Nat × List Nd:=if x∈ns then (Cq x ns,ns) else (ns.length,ns++[x])
theorem OV(ns:List Nd)(x:Nd):(AN ns x).1<(AN ns x).2.length:=by
 unfold AN;split
 ·exact DI ‹_›
 ·simp
theorem G0(ns:List Nd)(x:Nd):(AN ns x).2[(AN ns x).1]? =some x:=by
 unfold AN;split
 ·rename_i h;have h1:=DI h;rw[List.getElem?_eq_getElem h1,Jt h]
 ·simp
theorem NT{ns:List Nd}(h:ns.Nodup)(x:Nd):(AN ns x).2.Nodup:=by
 unfold AN;split
 ·exact h
 ·rename_i hx;rw[List.nodup_append];refine⟨h,by simp,fun a ha b hb=> ?_⟩;rw[List.mem_singleton]at hb;subst hb;exact fun e=>hx (e ▸ ha)
theorem BA(ns:List Nd)(x:Nd):ns <+: (AN ns x).2:=by
 unfold AN;split
 ·exact List.prefix_refl _
 ·exact List.prefix_append _ _
theorem GZ(ns:List Nd)(x:Nd):(AN ns x).2.length<=ns.length+1:=by
 unfold AN;split<;>simp
theorem FL{ns:List Nd}(hn:ns.Nodup){i:Nat}{x:Nd}(h:ns[i]? =some x):AN ns x=(i,ns):=by
 obtain⟨hi,he⟩:=List.getElem?_eq_some_iff.1 h;unfold AN;have hm:x∈ns:=he ▸ List.getElem_mem hi;rw[if_pos hm];subst he;rw[KL hn hi]
def Ai:List Nd->Ex->Nat × List Nd
 |ns,.leaf k t=>AN ns ⟨(k:Int),0,0,0,t⟩
 |ns,.un k n x=>AN (Ai ns x).2 ⟨(k:Int),((Ai ns x).1:Int),0,n,[]⟩
 |ns,.bin k x y=>AN (Ai (Ai ns x).2 y).2 ⟨(k:Int),((Ai ns x).1:Int),((Ai (Ai ns x).2 y).1:Int),0,[]⟩
def Rep(ns:List Nd):Nat->Ex->Prop
 |i,.leaf k t=>ns[i]? =some ⟨(k:Int),0,0,0,t⟩
 |i,.un k n x=>∃j,Rep ns j x/\ns[i]? =some ⟨(k:Int),(j:Int),0,n,[]⟩
 |i,.bin k x y=>∃j q,Rep ns j x/\Rep ns q y/\ns[i]? =some ⟨(k:Int),(j:Int),(q:Int),0,[]⟩
theorem AJ{ns ms:List Nd}(h:ns <+: ms){i:Nat}{x:Nd}(hx:ns[i]? =some x):ms[i]? =some x:=by
 obtain⟨t,rfl⟩:=h;obtain⟨hi,_⟩:=List.getElem?_eq_some_iff.1 hx;rw[List.getElem?_append_left hi,hx]
theorem Rep.pre{ns ms:List Nd}(h:ns <+: ms):∀{e:Ex} {i:Nat},Rep ns i e->Rep ms i e
 | .leaf _ _,_,hr=>AJ h hr
 | .un _ _ _,_,⟨j,hr,hx⟩=>⟨j,hr.pre h,AJ h hx⟩
 | .bin _ _ _,_,⟨j,q,hr,hr2,hx⟩=>⟨j,q,hr.pre h,hr2.pre h,AJ h hx⟩
theorem EB(e:Ex):∀ns,ns <+: (Ai ns e).2:=by
 induction e with
 |leaf k t=>intro ns;exact BA _ _
 |un k n x ih=>intro ns;exact(ih ns).trans (BA _ _)
 |bin k x y ihx ihy=>intro ns;exact((ihx ns).trans (ihy _)).trans (BA _ _)
theorem Sc(e:Ex):∀ns,(Ai ns e).2.length<=ns.length+e.size:=by
 induction e with
 |leaf k t=>intro ns;exact GZ _ _
 |un k n x ih=>
  intro ns;have h1:=ih ns;have h2:=GZ (Ai ns x).2 ⟨(k:Int),((Ai ns x).1:Int),0,n,[]⟩;simp only[Ai,Ex.size];omega
 |bin k x y ihx ihy=>
  intro ns;have h1:=ihx ns;have h2:=ihy (Ai ns x).2;have h3:=GZ (Ai (Ai ns x).2 y).2 ⟨(k:Int),((Ai ns x).1:Int),((Ai (Ai ns x).2 y).1:Int),0,[]⟩;simp only[Ai,Ex.size];omega
theorem Ej(e:Ex)(ns:List Nd):(Ai ns e).1<(Ai ns e).2.length:=by
 cases e<;>exact OV _ _
theorem CE(e:Ex):∀ns,Rep (Ai ns e).2 (Ai ns e).1 e:=by
 induction e with
 |leaf k t=>intro ns;exact G0 _ _
 |un k n x ih=>intro ns;exact⟨_,(ih ns).pre (BA _ _),G0 _ _⟩
 |bin k x y ihx ihy=>intro ns;exact⟨_,_,((ihx ns).pre (EB y _)).pre (BA _ _),(ihy _).pre (BA _ _),G0 _ _⟩
theorem Rep.one{ns:List Nd}(hn:ns.Nodup):∀{e:Ex} {i j:Nat},Rep ns i e->Rep ns j e->i=j:=by
 have key:∀{i j:Nat} {x:Nd},ns[i]? =some x->ns[j]? =some x->i=j:=by
  intro i j x hi hj;have h1:=FL hn hi;rw[FL hn hj]at h1;injection h1 with h1
  exact h1.symm
 intro e
 induction e with
 |leaf k t=>intro i j hi hj;exact key hi hj
 |un k n x ih=>
  rintro i j ⟨p,hp,hi⟩ ⟨q,hq,hj⟩;obtain rfl:=ih hp hq;exact key hi hj
 |bin k x y ihx ihy=>
  rintro i j ⟨p,p',hp,hp',hi⟩ ⟨q,q',hq,hq',hj⟩;obtain rfl:=ihx hp hq;obtain rfl:=ihy hp' hq';exact key hi hj
theorem Rep.same{ns:List Nd}:∀{e e':Ex} {i:Nat},e.Good->e'.Good->Rep ns i e->Rep ns i e'->e=e':=by
 intro e
 induction e with
 |leaf k t=>
  intro e' i hg iM h h';have h0:ns[i]? =some ⟨(k:Int),0,0,0,t⟩:=h
  cases e' with
  |leaf k' t'=>
   have h1:ns[i]? =some ⟨(k':Int),0,0,0,t'⟩:=h'
   rw[h0]at h1;simp only[Option.some.injEq,Nd.mk.injEq]at h1;have:k=k':=by omega
   rw[this,h1.2.2.2.2]
  |un k' n' x'=>
   obtain⟨j,_,h1⟩:=h';rw[h0]at h1;simp only[Option.some.injEq,Nd.mk.injEq]at h1;have:=iM.1;rcases hg with ⟨h,_⟩|⟨h,_⟩|⟨h,_⟩<;>omega
  |bin k' x' y'=>
   obtain⟨j,q,_,_,h1⟩:=h';rw[h0]at h1;simp only[Option.some.injEq,Nd.mk.injEq]at h1;have:=iM.1;rcases hg with ⟨h,_⟩|⟨h,_⟩|⟨h,_⟩<;>omega
 |un k n x ih=>
  intro e' i hg iM h h';obtain⟨j,hr,h0⟩:=h;cases e' with
  |leaf k' t'=>
   have h1:ns[i]? =some ⟨(k':Int),0,0,0,t'⟩:=h'
   rw[h0]at h1;simp only[Option.some.injEq,Nd.mk.injEq]at h1;have:=hg.1;rcases iM with ⟨h,_⟩|⟨h,_⟩|⟨h,_⟩<;>omega
  |un k' n' x'=>
   obtain⟨j',pz,h1⟩:=h';rw[h0]at h1;simp only[Option.some.injEq,Nd.mk.injEq]at h1;have hk:k=k':=by omega
   have hj:j=j':=by omega
   subst hj;rw[hk,h1.2.2.2.1,ih hg.2.2.2.2 iM.2.2.2.2 hr pz]
  |bin k' x' y'=>
   obtain⟨j',q,_,_,h1⟩:=h';rw[h0]at h1;simp only[Option.some.injEq,Nd.mk.injEq]at h1;have:=hg.1;have:=iM.1;omega
 |bin k x y ihx ihy=>
  intro e' i hg iM h h';obtain⟨j,q,hr,hr2,h0⟩:=h;cases e' with
  |leaf k' t'=>
   have h1:ns[i]? =some ⟨(k':Int),0,0,0,t'⟩:=h'
   rw[h0]at h1;simp only[Option.some.injEq,Nd.mk.injEq]at h1;have:=hg.1;rcases iM with ⟨h,_⟩|⟨h,_⟩|⟨h,_⟩<;>omega
  |un k' n' x'=>
   obtain⟨j',_,h1⟩:=h';rw[h0]at h1;simp only[Option.some.injEq,Nd.mk.injEq]at h1;have:=hg.1;have:=iM.1;omega
  |bin k' x' y'=>
   obtain⟨j',q',pz,y9,h1⟩:=h';rw[h0]at h1;simp only[Option.some.injEq,Nd.mk.injEq]at h1;have hk:k=k':=by omega
   have hj:j=j':=by omega
   have hq:q=q':=by omega
   subst hj;subst hq;rw[hk,ihx hg.2.1 iM.2.1 hr pz,ihy hg.2.2 iM.2.2 hr2 y9]
theorem J6{ns:List Nd}(hn:ns.Nodup):∀{e:Ex} {i:Nat},Rep ns i e->Ai ns e=(i,ns):=by
 intro e
 induction e with
 |leaf k t=>intro i h;exact FL hn h
 |un k n x ih=>
  rintro i ⟨j,hr,h⟩;have h1:=ih hr;simp only[Ai,h1];exact FL hn h
 |bin k x y ihx ihy=>
  rintro i ⟨j,q,hr,hr2,h⟩;have h1:=ihx hr;have h2:=ihy hr2;simp only[Ai,h1,h2];exact FL hn h
def In(s:List Nat × List Nd)(x:Nd):List Nat × List Nd:=
 (s.1++[(AN s.2 ⟨x.kind,if 5<=x.kind then ((s.1.getD x.a.toNat 0:Nat):Int) else x.a,if 6<=x.kind/\x.kind<=9 then ((s.1.getD x.b.toNat 0:Nat):Int) else x.b,x.n,x.text⟩).1],
  (AN s.2 ⟨x.kind,if 5<=x.kind then ((s.1.getD x.a.toNat 0:Nat):Int) else x.a,if 6<=x.kind/\x.kind<=9 then ((s.1.getD x.b.toNat 0:Nat):Int) else x.b,x.n,x.text⟩).2)
def BD(s:List Nat × List Nd)(l:List Nd):List Nat × List Nd:=l.foldl In s
theorem DO(l:List Nat)(x:Nat){i:Nat}(h:i=l.length):(l++[x]).getD i 0=x:=by
 subst h;rw[List.getD_eq_getElem?_getD,List.getElem?_append_right (Nat.le_refl _),Nat.sub_self];rfl
theorem EL(l m:List Nat){i:Nat}(h:i<l.length):(l++m).getD i 0=l.getD i 0:=by
 rw[List.getD_eq_getElem?_getD,List.getD_eq_getElem?_getD,List.getElem?_append_left h]
theorem On(e:Ex)(hg:e.Good):∀(bp:List Nat) (ns:List Nd),∃more:List Nat,more.length+1=e.size/\BD (bp,ns) (Ag bp.length e)=((bp++more)++[(Ai ns e).1],(Ai ns e).2):=by
 induction e with
 |leaf k t=>
  intro bp ns;have hk:k<5:=by rcases hg with ⟨h,_⟩|⟨h,_⟩|⟨h,_⟩<;>omega
  refine⟨[],rfl,?_⟩;simp only[BD,Ag,List.foldl_cons,List.foldl_nil,In,List.append_nil];rw[if_neg (by omega),if_neg (by omega)];rfl
 |un k n x ih=>
  intro bp ns;obtain⟨more,hm,hf⟩:=ih hg.2.2.2.2 bp ns;have hx:=x.size_pos;have hk:=hg.1;refine⟨more++[(Ai ns x).1],by simp only[List.length_append,List.length_singleton,Ex.size];omega,?_⟩;rw[Ag,BD,List.foldl_append];rw[BD]at hf;rw[hf];have hl:bp.length+x.size-1=(bp++more).length:=by rw[List.length_append];omega
  have h1:((bp++more)++[(Ai ns x).1]).getD (((bp.length+x.size-1:Nat):Int)).toNat 0=(Ai ns x).1:=DO _ _ (by rw[Int.toNat_natCast];exact hl);simp only[List.foldl_cons,List.foldl_nil,In,h1];rw[if_pos (by omega),if_neg (by omega)];simp only[Ai,List.append_assoc]
 |bin k x y ihx ihy=>
  intro bp ns;obtain⟨m1,kO,eC⟩:=ihx hg.2.1 bp ns;obtain⟨m2,lB,o7⟩:=ihy hg.2.2 ((bp++m1)++[(Ai ns x).1]) (Ai ns x).2;have hx:=x.size_pos;have hy:=y.size_pos;have hk:=hg.1;have ao:((bp++m1)++[(Ai ns x).1]).length=bp.length+x.size:=by simp only[List.length_append,List.length_singleton];omega
  rw[ao]at o7;refine⟨m1++[(Ai ns x).1]++m2++[(Ai (Ai ns x).2 y).1],by simp only[List.length_append,List.length_singleton,Ex.size];omega,?_⟩;rw[Ag,BD,List.foldl_append,List.foldl_append];rw[BD]at eC o7;rw[eC,o7];have hl:bp.length+x.size-1=(bp++m1).length:=by rw[List.length_append];omega
  have hl2:bp.length+x.size+y.size-1=(((bp++m1)++[(Ai ns x).1])++m2).length:=by rw[List.length_append,ao];omega
  have h1:(((((bp++m1)++[(Ai ns x).1])++m2)++[(Ai (Ai ns x).2 y).1])).getD (((bp.length+x.size-1:Nat):Int)).toNat 0=(Ai ns x).1:=by
   rw[Int.toNat_natCast,EL _ _ (by rw[<-hl2];omega),EL _ _ (by rw[ao];omega)];exact DO _ _ hl
  have h2:(((((bp++m1)++[(Ai ns x).1])++m2)++[(Ai (Ai ns x).2 y).1])).getD (((bp.length+x.size+y.size-1:Nat):Int)).toNat 0=(Ai (Ai ns x).2 y).1:=DO _ _ (by rw[Int.toNat_natCast];exact hl2);simp only[List.foldl_cons,List.foldl_nil,In,h1,h2];rw[if_pos (by omega),if_pos (by omega)];simp only[Ai,List.append_assoc]
structure F3 (x:Nd):Prop where
 kind:(Lit.int .i64 x.kind).wf=true
 a:(Lit.int .i64 x.a).wf=true
 b:(Lit.int .i64 x.b).wf=true
 n:(Lit.int .i64 x.n).wf=true
 text:x.text.length<=maxLen
theorem Qg:laidOutB Tryz.prog=true:=by kernel_rfl
theorem Ey:Go.Maps.Keyed Tryz.prog 95:=
 Go.Maps.Keyed.of_law (deep_law_laid Qg (m:=3) (by omega) (of_decide_eq_true (by kernel_rfl)) (by kernel_rfl) (by rw[Tryz.underlying95]))
theorem LI:Tryz.prog.keyType 95=true:=by kernel_rfl
theorem J1:Tryz.prog.cellsOf 95=5:=by kernel_rfl
theorem QF:Tryz.prog.cellsOf 3=1:=by kernel_rfl
theorem LR:Tryz.prog.cellsOf 9=1:=by kernel_rfl
theorem JK(x:Nd)(h:F3 x):∃l,keyOf Tryz.prog 95 (ndV x)=some l:=by
 have hs:(⟨x.text.toArray⟩:ByteArray).size<=maxLen:=by
  have:=h.text;rw[Cc];exact this
 obtain⟨m,hm⟩:∃m,Tryz.prog.types.size=m+1:=⟨Tryz.prog.types.size-1,by
  have:0<Tryz.prog.types.size:=of_decide_eq_true (by kernel_rfl);omega⟩
 obtain⟨q0,q1,q2,q3,_⟩:=h;refine Option.isSome_iff_exists.1 ?_
 unfold keyOf;rw[Tryz.underlying95];simp only[LI,Bool.true_and];rw[if_pos (by simp[ndV,Value.formed,Tryz.underlying95,J1]),hm];unfold Program.keyLits;rw[Tryz.underlying95];simp[ndV,Value.cells,J1,QF,LR,Program.keyLits,Tryz.underlying3,Tryz.underlying9,str,hs,q0,q1,q2,q3]
end Big
end Go.Proofs.YtkoaogkknnelaaaGreatDoor
