import Derived.Test.YtkoaogkknnelaaaGreatDoorM3
import Derived.WalkKit
import Derived.Lib.Hide
import Derived.Laws.OwnMore
import Derived.Deep.Draws
import Derived.WalkLawsBesides
import Derived.WalkSpells
import Derived.BigQuiet
import Derived.Deep.QuietTactic
import Derived.Deep.DeepFit
import Derived.Deep.LoopGhost
import Derived.Handy
set_option linter.unusedVariables false
set_option linter.unusedSimpArgs false
namespace Go.Proofs.YtkoaogkknnelaaaGreatDoor
namespace Big
open Lib (hid)
instance:DecidableEq Nd:=fun x y=>decidable_of_iff (x.kind=y.kind/\x.a=y.a/\x.b=y.b/\x.n=y.n/\x.text=y.text) (by
 obtain⟨a0,a1,a2,a3,a4⟩:=x;obtain⟨b0,b1,b2,b3,b4⟩:=y;simp only[Nd.mk.injEq])
def Cv(x:Nd):List Nd->Nat
 |[]=>0
 |y::l=>if y=x then 0 else Cv x l+1
theorem Fh(x y:Nd)(l:List Nd):Cv x (y::l)=if y=x then 0 else Cv x l+1:=rfl
theorem Kw{l:List Nd}(hn:l.Nodup){i j:Nat}(hi:i<l.length)(hj:j<l.length)(h:l[i]=l[j]):i=j:=by
 rcases Nat.lt_trichotomy i j with h1|h1|h1
 ·exact absurd h (List.pairwise_iff_getElem.1 hn i j hi hj h1)
 ·exact h1
 ·exact absurd h.symm (List.pairwise_iff_getElem.1 hn j i hj hi h1)
theorem Dj{x:Nd}:∀{l:List Nd},x∈l->Cv x l<l.length
 |y::l,h=>by
  unfold Cv;split
  ·simp
  ·rename_i hne;rcases List.mem_cons.1 h with h|h
   ·exact absurd h.symm hne
   ·have:=Dj h;simp only[List.length_cons];omega
theorem If{x:Nd}:∀{l:List Nd},x∈l->l[Cv x l]? =some x
 |y::l,h=>by
  by_cases he:y=x
  ·rw[Fh,if_pos he,he];rfl
  ·rw[Fh,if_neg he];rcases List.mem_cons.1 h with h|h
   ·exact absurd h.symm he
   ·rw[List.getElem?_cons_succ];exact If h
theorem Jh{x:Nd}{l:List Nd}(hm:x∈l):l[Cv x l]'(Dj hm)=x:=by
 have:=If hm;rw[List.getElem?_eq_getElem (Dj hm)]at this;injection this
theorem Ku{l:List Nd}(hn:l.Nodup){i:Nat}(h:i<l.length):Cv l[i] l=i:=by
 have hm:=Dj (List.getElem_mem h);exact Kw hn hm h (Jh (List.getElem_mem h))
def Bo(ns:List Nd)(x:Nd):Nat × List Nd:=if x∈ns then (Cv x ns,ns) else (ns.length,ns++[x])
theorem Ou(ns:List Nd)(x:Nd):(Bo ns x).1<(Bo ns x).2.length:=by
 unfold Bo;split
 ·exact Dj ‹_›
 ·simp
theorem Je(ns:List Nd)(x:Nd):(Bo ns x).2[(Bo ns x).1]? =some x:=by
 unfold Bo;split
 ·rename_i h;have h1:=Dj h;rw[List.getElem?_eq_getElem h1,Jh h]
 ·simp
theorem ND{ns:List Nd}(h:ns.Nodup)(x:Nd):(Bo ns x).2.Nodup:=by
 unfold Bo;split
 ·exact h
 ·rename_i hx;rw[List.nodup_append];refine⟨h,by simp,fun a ha b hb=> ?_⟩;rw[List.mem_singleton]at hb;subst hb;exact fun e=>hx (e ▸ ha)
theorem DV(ns:List Nd)(x:Nd):ns <+: (Bo ns x).2:=by
 unfold Bo;split
 ·exact List.prefix_refl _
 ·exact List.prefix_append _ _
theorem Gs(ns:List Nd)(x:Nd):(Bo ns x).2.length<=ns.length+1:=by
 unfold Bo;split<;>simp
theorem L6{ns:List Nd}(hn:ns.Nodup){i:Nat}{x:Nd}(h:ns[i]? =some x):Bo ns x=(i,ns):=by
 obtain⟨hi,he⟩:=List.getElem?_eq_some_iff.1 h;unfold Bo;have hm:x∈ns:=he ▸ List.getElem_mem hi;rw[if_pos hm];subst he;rw[Ku hn hi]
def Bg:List Nd->Ex->Nat × List Nd
 |ns,.leaf k t=>Bo ns ⟨(k:Int),0,0,0,t⟩
 |ns,.un k n x=>Bo (Bg ns x).2 ⟨(k:Int),((Bg ns x).1:Int),0,n,[]⟩
 |ns,.bin k x y=>Bo (Bg (Bg ns x).2 y).2 ⟨(k:Int),((Bg ns x).1:Int),((Bg (Bg ns x).2 y).1:Int),0,[]⟩
def Rep(ns:List Nd):Nat->Ex->Prop
 |i,.leaf k t=>ns[i]? =some ⟨(k:Int),0,0,0,t⟩
 |i,.un k n x=>∃j,Rep ns j x/\ns[i]? =some ⟨(k:Int),(j:Int),0,n,[]⟩
 |i,.bin k x y=>∃j q,Rep ns j x/\Rep ns q y/\ns[i]? =some ⟨(k:Int),(j:Int),(q:Int),0,[]⟩
theorem GK{ns ms:List Nd}(h:ns <+: ms){i:Nat}{x:Nd}(hx:ns[i]? =some x):ms[i]? =some x:=by
 obtain⟨t,rfl⟩:=h;obtain⟨hi,_⟩:=List.getElem?_eq_some_iff.1 hx;rw[List.getElem?_append_left hi,hx]
theorem Rep.pre{ns ms:List Nd}(h:ns <+: ms):∀{e:Ex} {i:Nat},Rep ns i e->Rep ms i e
 | .leaf _ _,_,hr=>GK h hr
 | .un _ _ _,_,⟨j,hr,hx⟩=>⟨j,hr.pre h,GK h hx⟩
 | .bin _ _ _,_,⟨j,q,hr,hr2,hx⟩=>⟨j,q,hr.pre h,hr2.pre h,GK h hx⟩
theorem MU(e:Ex):∀ns,ns <+: (Bg ns e).2:=by
 induction e with
 |leaf k t=>intro ns;exact DV _ _
 |un k n x ih=>intro ns;exact(ih ns).trans (DV _ _)
 |bin k x y ihx ihy=>intro ns;exact((ihx ns).trans (ihy _)).trans (DV _ _)
theorem SH(e:Ex):∀ns,(Bg ns e).2.length<=ns.length+e.size:=by
 induction e with
 |leaf k t=>intro ns;exact Gs _ _
 |un k n x ih=>
  intro ns;have h1:=ih ns;have h2:=Gs (Bg ns x).2 ⟨(k:Int),((Bg ns x).1:Int),0,n,[]⟩;simp only[Bg,Ex.size];omega
 |bin k x y ihx ihy=>
  intro ns;have h1:=ihx ns;have h2:=ihy (Bg ns x).2;have h3:=Gs (Bg (Bg ns x).2 y).2 ⟨(k:Int),((Bg ns x).1:Int),((Bg (Bg ns x).2 y).1:Int),0,[]⟩;simp only[Bg,Ex.size];omega
theorem GU(e:Ex)(ns:List Nd):(Bg ns e).1<(Bg ns e).2.length:=by
 cases e<;>exact Ou _ _
theorem MS(e:Ex):∀ns,Rep (Bg ns e).2 (Bg ns e).1 e:=by
 induction e with
 |leaf k t=>intro ns;exact Je _ _
 |un k n x ih=>intro ns;exact⟨_,(ih ns).pre (DV _ _),Je _ _⟩
 |bin k x y ihx ihy=>intro ns;exact⟨_,_,((ihx ns).pre (MU y _)).pre (DV _ _),(ihy _).pre (DV _ _),Je _ _⟩
theorem Rep.one{ns:List Nd}(hn:ns.Nodup):∀{e:Ex} {i j:Nat},Rep ns i e->Rep ns j e->i=j:=by
 have key:∀{i j:Nat} {x:Nd},ns[i]? =some x->ns[j]? =some x->i=j:=by
  intro i j x hi hj;have h1:=L6 hn hi;rw[L6 hn hj]at h1;injection h1 with h1
  exact h1.symm
 intro e
 induction e with
 |leaf k t=>intro i j hi hj;exact key hi hj
 |un k n x ih=>
  rintro i j ⟨p,hp,hi⟩ ⟨q,hq,hj⟩;obtain rfl:=ih hp hq;exact key hi hj
 |bin k x y ihx ihy=>
  rintro i j ⟨p,p',hp,uG,hi⟩ ⟨q,q',hq,ZT,hj⟩;obtain rfl:=ihx hp hq;obtain rfl:=ihy uG ZT;exact key hi hj
theorem Rep.same{ns:List Nd}:∀{e e':Ex} {i:Nat},e.Good->e'.Good->Rep ns i e->Rep ns i e'->e=e':=by
 intro e
 induction e with
 |leaf k t=>
  intro e' i hg mg h h';have h0:ns[i]? =some ⟨(k:Int),0,0,0,t⟩:=h
  cases e' with
  |leaf k' t'=>
   have h1:ns[i]? =some ⟨(k':Int),0,0,0,t'⟩:=h'
   rw[h0]at h1;simp only[Option.some.injEq,Nd.mk.injEq]at h1;have:k=k':=by omega
   rw[this,h1.2.2.2.2]
  |un k' n' x'=>
   obtain⟨j,_,h1⟩:=h';rw[h0]at h1;simp only[Option.some.injEq,Nd.mk.injEq]at h1;have:=mg.1;rcases hg with ⟨h,_⟩|⟨h,_⟩|⟨h,_⟩<;>omega
  |bin k' x' y'=>
   obtain⟨j,q,_,_,h1⟩:=h';rw[h0]at h1;simp only[Option.some.injEq,Nd.mk.injEq]at h1;have:=mg.1;rcases hg with ⟨h,_⟩|⟨h,_⟩|⟨h,_⟩<;>omega
 |un k n x ih=>
  intro e' i hg mg h h';obtain⟨j,hr,h0⟩:=h;cases e' with
  |leaf k' t'=>
   have h1:ns[i]? =some ⟨(k':Int),0,0,0,t'⟩:=h'
   rw[h0]at h1;simp only[Option.some.injEq,Nd.mk.injEq]at h1;have:=hg.1;rcases mg with ⟨h,_⟩|⟨h,_⟩|⟨h,_⟩<;>omega
  |un k' n' x'=>
   obtain⟨j',yJ,h1⟩:=h';rw[h0]at h1;simp only[Option.some.injEq,Nd.mk.injEq]at h1;have hk:k=k':=by omega
   have hj:j=j':=by omega
   subst hj;rw[hk,h1.2.2.2.1,ih hg.2.2.2.2 mg.2.2.2.2 hr yJ]
  |bin k' x' y'=>
   obtain⟨j',q,_,_,h1⟩:=h';rw[h0]at h1;simp only[Option.some.injEq,Nd.mk.injEq]at h1;have:=hg.1;have:=mg.1;omega
 |bin k x y ihx ihy=>
  intro e' i hg mg h h';obtain⟨j,q,hr,hr2,h0⟩:=h;cases e' with
  |leaf k' t'=>
   have h1:ns[i]? =some ⟨(k':Int),0,0,0,t'⟩:=h'
   rw[h0]at h1;simp only[Option.some.injEq,Nd.mk.injEq]at h1;have:=hg.1;rcases mg with ⟨h,_⟩|⟨h,_⟩|⟨h,_⟩<;>omega
  |un k' n' x'=>
   obtain⟨j',_,h1⟩:=h';rw[h0]at h1;simp only[Option.some.injEq,Nd.mk.injEq]at h1;have:=hg.1;have:=mg.1;omega
  |bin k' x' y'=>
   obtain⟨j',q',yJ,yI,h1⟩:=h';rw[h0]at h1;simp only[Option.some.injEq,Nd.mk.injEq]at h1;have hk:k=k':=by omega
   have hj:j=j':=by omega
   have hq:q=q':=by omega
   subst hj;subst hq;rw[hk,ihx hg.2.1 mg.2.1 hr yJ,ihy hg.2.2 mg.2.2 hr2 yI]
def H5(s:List Nat × List Nd)(x:Nd):List Nat × List Nd:=
 (s.1++[(Bo s.2 ⟨x.kind,if 5<=x.kind then ((s.1.getD x.a.toNat 0:Nat):Int) else x.a,if 6<=x.kind/\x.kind<=9 then ((s.1.getD x.b.toNat 0:Nat):Int) else x.b,x.n,x.text⟩).1],
  (Bo s.2 ⟨x.kind,if 5<=x.kind then ((s.1.getD x.a.toNat 0:Nat):Int) else x.a,if 6<=x.kind/\x.kind<=9 then ((s.1.getD x.b.toNat 0:Nat):Int) else x.b,x.n,x.text⟩).2)
def BH(s:List Nat × List Nd)(l:List Nd):List Nat × List Nd:=l.foldl H5 s
theorem Dm(l:List Nat)(x:Nat){i:Nat}(h:i=l.length):(l++[x]).getD i 0=x:=by
 subst h;rw[List.getD_eq_getElem?_getD,List.getElem?_append_right (Nat.le_refl _),Nat.sub_self];rfl
theorem El(l m:List Nat){i:Nat}(h:i<l.length):(l++m).getD i 0=l.getD i 0:=by
 rw[List.getD_eq_getElem?_getD,List.getD_eq_getElem?_getD,List.getElem?_append_left h]
theorem N0(e:Ex)(hg:e.Good):∀(bJ:List Nat) (ns:List Nd),∃more:List Nat,more.length+1=e.size/\BH (bJ,ns) (Ak bJ.length e)=((bJ++more)++[(Bg ns e).1],(Bg ns e).2):=by
 induction e with
 |leaf k t=>
  intro bJ ns;have hk:k<5:=by rcases hg with ⟨h,_⟩|⟨h,_⟩|⟨h,_⟩<;>omega
  refine⟨[],rfl,?_⟩;simp only[BH,Ak,List.foldl_cons,List.foldl_nil,H5,List.append_nil];rw[if_neg (by omega),if_neg (by omega)];rfl
 |un k n x ih=>
  intro bJ ns;obtain⟨more,hm,hf⟩:=ih hg.2.2.2.2 bJ ns;have hx:=x.size_pos;have hk:=hg.1;refine⟨more++[(Bg ns x).1],by simp only[List.length_append,List.length_singleton,Ex.size];omega,?_⟩;rw[Ak,BH,List.foldl_append];rw[BH]at hf;rw[hf];have hl:bJ.length+x.size-1=(bJ++more).length:=by rw[List.length_append];omega
  have h1:((bJ++more)++[(Bg ns x).1]).getD (((bJ.length+x.size-1:Nat):Int)).toNat 0=(Bg ns x).1:=Dm _ _ (by rw[Int.toNat_natCast];exact hl);simp only[List.foldl_cons,List.foldl_nil,H5,h1];rw[if_pos (by omega),if_neg (by omega)];simp only[Bg,List.append_assoc]
 |bin k x y ihx ihy=>
  intro bJ ns;obtain⟨m1,gM,eh⟩:=ihx hg.2.1 bJ ns;obtain⟨m2,mc,qo⟩:=ihy hg.2.2 ((bJ++m1)++[(Bg ns x).1]) (Bg ns x).2;have hx:=x.size_pos;have hy:=y.size_pos;have hk:=hg.1;have aF:((bJ++m1)++[(Bg ns x).1]).length=bJ.length+x.size:=by simp only[List.length_append,List.length_singleton];omega
  rw[aF]at qo;refine⟨m1++[(Bg ns x).1]++m2++[(Bg (Bg ns x).2 y).1],by simp only[List.length_append,List.length_singleton,Ex.size];omega,?_⟩;rw[Ak,BH,List.foldl_append,List.foldl_append];rw[BH]at eh qo;rw[eh,qo];have hl:bJ.length+x.size-1=(bJ++m1).length:=by rw[List.length_append];omega
  have hl2:bJ.length+x.size+y.size-1=(((bJ++m1)++[(Bg ns x).1])++m2).length:=by rw[List.length_append,aF];omega
  have h1:(((((bJ++m1)++[(Bg ns x).1])++m2)++[(Bg (Bg ns x).2 y).1])).getD (((bJ.length+x.size-1:Nat):Int)).toNat 0=(Bg ns x).1:=by
   rw[Int.toNat_natCast,El _ _ (by rw[<-hl2];omega),El _ _ (by rw[aF];omega)];exact Dm _ _ hl
  have h2:(((((bJ++m1)++[(Bg ns x).1])++m2)++[(Bg (Bg ns x).2 y).1])).getD (((bJ.length+x.size+y.size-1:Nat):Int)).toNat 0=(Bg (Bg ns x).2 y).1:=Dm _ _ (by rw[Int.toNat_natCast];exact hl2);simp only[List.foldl_cons,List.foldl_nil,H5,h1,h2];rw[if_pos (by omega),if_pos (by omega)];simp only[Bg,List.append_assoc]
def JW(k:Nat)(t:List UInt8):Prop:=(k=1/\Bm t=0/\t.length<=400)\/(k=2/\Ej t=true)\/((k=3\/k=4)/\t=[])
def U3(k:Nat)(n:Int):Prop:=(k=5\/(10<=k/\k<=16))/\(k≠10->n=0)∧-64<=n/\n<=64
def Cw(i:Nat)(x:Nd):Prop:=
 (∃(k:Nat) (t:List UInt8),x=⟨(k:Int),0,0,0,t⟩/\JW k t)\/(∃(k:Nat) (n:Int) (j:Nat),x=⟨(k:Int),(j:Int),0,n,[]⟩/\U3 k n/\j<i)\/
 (∃k j q:Nat,x=⟨(k:Int),(j:Int),(q:Int),0,[]⟩/\(6<=k/\k<=9)/\j<i/\q<i)
theorem Cw.mono{i j:Nat}{x:Nd}(h:Cw i x)(hij:i<=j):Cw j x:=by
 rcases h with h|⟨k,n,p,he,h1,h2⟩|⟨k,p,q,he,h1,h2,h3⟩
 ·exact .inl h
 ·exact .inr (.inl ⟨k,n,p,he,h1,by omega⟩)
 ·exact .inr (.inr ⟨k,p,q,he,h1,by omega,by omega⟩)
theorem Cw.text{i:Nat}{x:Nd}(h:Cw i x):x.text.length<=400:=by
 rcases h with ⟨k,t,rfl,h⟩|⟨k,n,p,rfl,h1,h2⟩|⟨k,p,q,rfl,h1,h2,h3⟩
 ·rcases h with ⟨_,_,h⟩|⟨_,h⟩|⟨_,h⟩
  ·exact h
  ·have:=Gj (Bool.and_eq_true_iff.1 h).1;simp only;omega
  ·rw[h];simp
 ·simp
 ·simp
def AH(ns:List Nd):Prop:=ns.Nodup/\∀i x,ns[i]? =some x->Cw i x
theorem AH.nil:AH []:=⟨List.nodup_nil,fun i x h=>by cases h⟩
theorem AH.put{ns:List Nd}(h:AH ns){x:Nd}(hx:Cw ns.length x):AH (Bo ns x).2:=by
 refine⟨ND h.1 x,?_⟩;unfold Bo;split
 ·exact h.2
 ·intro i y hy;rcases Nat.lt_or_ge i ns.length with hi|hi
  ·rw[List.getElem?_append_left hi]at hy;exact h.2 i y hy
  ·rw[List.getElem?_append_right hi]at hy;have:i-ns.length=0:=by
    rcases Nat.eq_zero_or_pos (i-ns.length) with h0|h0
    ·exact h0
    ·rw[List.getElem?_eq_none (by simp only[List.length_singleton];omega)]at hy;cases hy
   rw[this]at hy;injection hy with hy
   subst hy;exact hx.mono hi
theorem AH.add(e:Ex)(hg:e.Good):∀ns,AH ns->AH (Bg ns e).2:=by
 induction e with
 |leaf k t=>intro ns h;exact h.put (.inl ⟨k,t,rfl,hg⟩)
 |un k n x ih=>
  intro ns h;obtain⟨h1,h2,h3,h4,hx⟩:=hg;exact(ih hx ns h).put (.inr (.inl ⟨k,n,_,rfl,⟨h1,h2,h3,h4⟩,GU x ns⟩))
 |bin k x y ihx ihy=>
  intro ns h;obtain⟨h1,hx,hy⟩:=hg;have hl:=(MU y (Bg ns x).2).length_le;have:=GU x ns;exact(ihy hy _ (ihx hx ns h)).put (.inr (.inr ⟨k,_,_,rfl,h1,by omega,GU y _⟩))
theorem AH.pre{ns ms:List Nd}(h:AH ms)(hp:ns <+: ms):AH ns:=by
 refine⟨h.1.sublist hp.sublist,fun i x hx=>h.2 i x (GK hp hx)⟩
section
variable {f:Nat} {g:Nat->Nat} {h:Nat->Nat->Nat}
end
open Go.RowKit
def d32(x:Nat):Value:= .int .u32 (x:Int)
def Ext(w w':World):Prop:=Below w.heap.size w w'
section
variable {w w' w'':World}
theorem Ext.refl(w:World):Ext w w:=Below.refl _ _
theorem Ext.trans(h:Ext w w')(k:Ext w' w''):Ext w w'':=Below.trans h (Below.mono k h.size)
theorem Ext.more(h:Ext w w')(k:Below w.heap.size w' w''):Ext w w'':=Below.trans h k
theorem Ext.size(h:Ext w w'):w.heap.size<=w'.heap.size:=Below.size h
theorem Ext.alloc(h:Ext w w')(o:Obj):Ext w (w'.alloc o):=Below.alloc h h.size o
theorem Ext.drew(h:Ext w w'):Ext w w'.drew:=Below.drew h
theorem Ext.drewN(h:Ext w w')(n:Nat):Ext w (w'.drewN n):=⟨h.os,h.tape,h.output,h.size,h.block⟩
theorem Ext.setCell(h:Ext w w'){p:Addr}(hp:w.heap.size<=p.block)(u:Value):Ext w (w'.setCell p u):=Below.setCell h hp u
theorem Ext.grown{row:Option Nat}(h:Ext w w')(hg:w'.grownBy w'' row)(hr:∀k,row=some k->w.heap.size<=k):Ext w w'':=Below.grown h hg h.size hr
theorem Ext.cell(h:Ext w w'){b o:Nat}(hb:b<w.heap.size):w'.cell? ⟨b,o,none⟩=w.cell? ⟨b,o,none⟩:=Below.cell (p:=⟨b,o,none⟩) h hb
theorem Ext.frozen(h:Ext w w'){b o:Nat}(hb:b<w.heap.size):w'.frozen? ⟨b,o,none⟩=w.frozen? ⟨b,o,none⟩:=Below.frozen (p:=⟨b,o,none⟩) h hb
end
def Blk(w:World)(g:Nat)(t:TypeId)(cs:Array Value):Prop:=w.heap[g]? =some (.cells cs t (0,0))
section
variable {w w':World} {g:Nat} {t:TypeId} {cs:Array Value}
theorem Blk.lt(h:Blk w g t cs):g<w.heap.size:=by
 rcases Nat.lt_or_ge g w.heap.size with hlt|fE
 ·exact hlt
 ·unfold Blk at h;rw[Array.getElem?_eq_none fE]at h;cases h
theorem Blk.cell(h:Blk w g t cs)(i:Nat):w.cell? ⟨g,i,none⟩=cs[i]? :=cell_of_row w g i cs t (0,0) h
theorem Blk.frozen(h:Blk w g t cs)(i:Nat):w.frozen? ⟨g,i,none⟩=false:=by
 unfold Blk at h;simp[World.frozen?,h]
theorem Blk.new(w:World)(t:TypeId)(cs:Array Value):Blk (w.alloc (.cells cs t)) w.heap.size t cs:=heap_alloc_new w _
theorem Blk.drew(h:Blk w g t cs):Blk w.drew g t cs:=h
theorem Blk.drewN(h:Blk w g t cs)(n:Nat):Blk (w.drewN n) g t cs:=h
theorem Blk.alloc(h:Blk w g t cs)(o:Obj):Blk (w.alloc o) g t cs:=(Below.heap_alloc w o g h.lt).trans h
theorem Blk.set_(h:Blk w g t cs)(i:Nat)(u:Value):Blk (w.setCell ⟨g,i,none⟩ u) g t (cs.setIfInBounds i u):=by
 unfold Blk at h ⊢;simp[World.setCell,Array.getElem?_modify,h]
theorem Blk.far(h:Blk w g t cs){p:Addr}(hp:g≠p.block)(u:Value):Blk (w.setCell p u) g t cs:=(Below.heap_setCell w p u g hp).trans h
theorem Blk.ext(h:Blk w g t cs)(hb:Ext w w'):Blk w' g t cs:=(Below.block hb g h.lt).trans h
end
def Eb(w:World)(v:Value)(vs:List Value):Prop:=
 ∃A c,v= .slice A vs.length c/\vs.length<=c/\c<=maxLen/\
  (0<vs.length->∃b o,A=some ⟨b,o,none⟩/\b<w.heap.size/\∀j u,vs[j]? =some u->w.cell? ⟨b,o+j,none⟩=some u)
def CQ(t:TypeId)(B:Nat)(w:World)(v:Value)(vs:List Value):Prop:=
 ∃A c,v= .slice A vs.length c/\vs.length<=c/\c<=maxLen/\
  ((vs=[]/\c=0)\/∃g cur,A=some ⟨g,0,none⟩/\B<=g/\Blk w g t cur/\cur.size=c/\cur.toList.take vs.length=vs)
section
variable {w w':World} {v:Value} {vs:List Value} {B B':Nat} {t:TypeId}
theorem Eb.ext(h:Eb w v vs)(hb:Ext w w'):Eb w' v vs:=by
 obtain⟨A,c,rfl,h2,h3,h4⟩:=h;refine⟨A,c,rfl,h2,h3,fun hp=> ?_⟩;obtain⟨b,o,rfl,hlt,hc⟩:=h4 hp;exact⟨b,o,rfl,Nat.lt_of_lt_of_le hlt hb.size,fun j u hj=>(hb.cell hlt).trans (hc j u hj)⟩
theorem CQ.ext(h:CQ t B w v vs)(hb:Ext w w'):CQ t B w' v vs:=by
 obtain⟨A,c,rfl,h2,h3,h4⟩:=h;refine⟨A,c,rfl,h2,h3,?_⟩;rcases h4 with h4|⟨g,cur,rfl,hg,ay,hs,ht⟩
 ·exact .inl h4
 ·exact .inr ⟨g,cur,rfl,hg,ay.ext hb,hs,ht⟩
theorem CQ.mono(h:CQ t B w v vs)(hB:B'<=B):CQ t B' w v vs:=by
 obtain⟨A,c,rfl,h2,h3,h4⟩:=h;refine⟨A,c,rfl,h2,h3,?_⟩;rcases h4 with h4|⟨g,cur,rfl,hg,rest⟩
 ·exact .inl h4
 ·exact .inr ⟨g,cur,rfl,Nat.le_trans hB hg,rest⟩
theorem Ol{cur:Array Value}{n:Nat}(ht:cur.toList.take n=vs){j:Nat}{u:Value}(hj:vs[j]? =some u):cur[j]? =some u:=by
 rw[<-ht,List.getElem?_take]at hj;split at hj
 ·simpa using hj
 ·cases hj
theorem CQ.arr(h:CQ t B w v vs):Eb w v vs:=by
 obtain⟨A,c,rfl,h2,h3,h4⟩:=h;refine⟨A,c,rfl,h2,h3,fun hp=> ?_⟩;rcases h4 with ⟨rfl,rfl⟩|⟨g,cur,rfl,hg,ay,hs,ht⟩
 ·simp at hp
 ·refine⟨g,0,rfl,ay.lt,fun j u hj=> ?_⟩;rw[ay.cell,Nat.zero_add];exact Ol ht hj
theorem CQ.none_(t:TypeId)(B:Nat)(w:World):CQ t B w (.slice none 0 0) []:=⟨none,0,rfl,Nat.zero_le _,by unfold maxLen;omega,.inl ⟨rfl,rfl⟩⟩
theorem Eb.none_(w:World):Eb w (.slice none 0 0) []:=(CQ.none_ 0 0 w).arr
theorem CQ.empty(t:TypeId)(B:Nat)(w:World)(A:Option Addr):CQ t B w (.slice A 0 0) []:=⟨A,0,rfl,Nat.zero_le _,by unfold maxLen;omega,.inl ⟨rfl,rfl⟩⟩
theorem Eb.one{b:Nat}{u:Value}(h:w.cell? ⟨b,0,none⟩=some u):Eb w (.slice (some ⟨b,0,none⟩) 1 1) [u]:=
 ⟨some ⟨b,0,none⟩,1,rfl,Nat.le_refl _,by unfold maxLen;omega,fun _=>⟨b,0,rfl,World.block_lt_of_cell? w _ h,fun j x hj=>by
  match j with
  |0=>simp only[List.getElem?_cons_zero,Option.some.injEq]at hj;subst hj;exact h
  |j+1=>simp at hj⟩⟩
theorem CQ.take(h:CQ t B w v vs)(n:Nat)(hn:n<=vs.length):∃A c,v= .slice A vs.length c/\CQ t B w (.slice A n c) (vs.take n):=by
 obtain⟨A,c,rfl,h2,h3,h4⟩:=h;have hl:(vs.take n).length=n:=by rw[List.length_take,Nat.min_eq_left hn]
 refine⟨A,c,rfl,A,c,by rw[hl],by rw[hl];omega,h3,?_⟩;rcases h4 with ⟨rfl,rfl⟩|⟨g,cur,rfl,hg,ay,hs,ht⟩
 ·exact .inl ⟨by simp,rfl⟩
 ·exact .inr ⟨g,cur,rfl,hg,ay,hs,by rw[hl];rw[<-ht,List.take_take,Nat.min_eq_left hn]⟩
end
section
variable {P:Program} {w:World} {v src:Value} {vs ys:List Value} {B:Nat}
def LY:Value->Option Nat
 | .slice (some a) _ c=>if c=0 then none else some a.block
 |_=>none
theorem I4 (t ty e:TypeId) (i:TypeInfo) (z:Value) (bytes:Nat) (ht:P.underlying t=some (.slice e)) (hi:P.info? e=some i) (hz:i.zero=some z)
  (gY:i.size=1) (fw:i.bytes=bytes) (m8:z.cells.size=1)
  (aG:CQ e B w v vs) (jR:Eb w src ys) (h1:∀u∈ys,u.oneCell'=true)
  (qw:vs.length+ys.length<=maxLen) (fJ:(vs.length+ys.length)*bytes<=140737488355328) (eQ:B<=w.heap.size):
  ∃v' w',(Builtin.append_ #[t,t] ty #[v,src]).run P w= .ok v' w'/\CQ e B w' v' (vs++ys)/\w.grownBy w' (LY v)/\Below B w w':=by
 obtain⟨A,c,rfl,h2,h3,h4⟩:=aG;obtain⟨A',c',rfl,k2,k3,k4⟩:=jR;rcases Nat.eq_zero_or_pos ys.length with hm|hm
 ·have kN:ys=[]:=List.eq_nil_of_length_eq_zero hm;subst kN;refine⟨.slice A vs.length c,w,?_,⟨A,c,by simp,by simpa using h2,h3,by simpa using h4⟩,⟨rfl,rfl,rfl,Nat.le_refl _,fun _ _ _=>rfl⟩,Below.refl _ _⟩;rcases A' with _|a'<;>rcases A with _|a<;>
   simp[Builtin.append_,run_underlying ht,sizeOf,typeInfo,hi,Builtin.lenOf,Builtin.firstCells,loadCells,loadCellsFrom,storeCells,h2]
 ·obtain⟨b',o',rfl,hlt',fW⟩:=k4 hm;have nF:∀j u,ys[j]? =some u->w.cell? ((⟨b',o',none⟩:Addr).add j)=some u:=fun j u hj=>by
   have:=fW j u hj;unfold Addr.add;split
   ·rename_i h0;subst h0;simpa using this
   ·exact this
  have h5:(vs=[]/\c=0)\/(c≠0/\∃g cur,A=some ⟨g,0,none⟩/\B<=g/\Blk w g e cur/\cur.size=c/\cur.toList.take vs.length=vs):=by
   by_cases hc0:c=0
   ·exact .inl ⟨List.eq_nil_of_length_eq_zero (by omega),hc0⟩
   ·rcases h4 with ⟨_,hc⟩|h4
    ·exact absurd hc hc0
    ·exact .inr ⟨hc0,h4⟩
  clear h4;rcases h5 with ⟨rfl,rfl⟩|⟨hc0,g,cur,rfl,hg,ay,hs,lY⟩
  ·
   have hsm:ys.length<=9223372036854775807:=by unfold maxLen at qw;simp at qw;omega
   have fV:grownCap w ys.length 0 e<=maxLen:=grownCap_le_maxLen w ys.length 0 e (by simpa using qw);have fE:=grownCap_ge w ys.length 0 e;have gN:ys.length*i.bytes<=140737488355328:=by rw[fw];simpa using fJ
   have key:∃W,(Builtin.append_ #[t,t] ty #[.slice A 0 0,.slice (some ⟨b',o',none⟩) ys.length c']).run P w= .ok (.slice (some ⟨w.heap.size,0,none⟩) ys.length (grownCap w ys.length 0 e)) W/\
     W=w.drew.alloc (.cells (ys.toArray++Builtin.zeroCells z.cells (grownCap w ys.length 0 e-ys.length)) e):=by
    rcases A with _|a
    ·exact⟨_,run_append_nil (P:=P) w t ty e i z ht hi hz ⟨b',o',none⟩ ys.length c' ys (by rw[gY,Nat.mul_one]) nF hm (by omega) (by omega),rfl⟩
    ·have hr:=run_append_grow (P:=P) w t ty e i z ht hi hz a 0 0 [] (by simp) (fun j u hu=>by simp at hu) ⟨b',o',none⟩ ys.length c' ys (by rw[gY,Nat.mul_one]) nF (by omega) (by omega) (growslice_fits (by omega) (by simpa using gN));simp only[Nat.zero_add]at hr;refine⟨_,hr,?_⟩;simp
   obtain⟨W,fp,rfl⟩:=key;refine⟨_,_,fp,⟨_,_,by simp,by simpa using fE,fV,.inr ⟨w.heap.size,_,rfl,eQ,heap_alloc_new w.drew _,?_,?_⟩⟩,?_,?_⟩
   ·simp only[Array.size_append,List.size_toArray,size_zeroCells,m8,Nat.mul_one];omega
   ·simp
   ·exact⟨rfl,rfl,rfl,by simp,fun k hk _=>Below.heap_alloc w.drew _ k hk⟩
   ·exact((Below.refl B w).drew).alloc eQ _
  ·have be:w.ownsRow B e 1 (.slice (some ⟨g,0,none⟩) vs.length c) vs.length vs:=
    ⟨by rw[Nat.mul_one],.inr ⟨g,c,cur,rfl,hg,ay,h2,h3,by rw[Nat.mul_one];exact hs,by rw[Nat.mul_one];exact lY⟩⟩
   obtain⟨v',w',fp,dh,aQ,ZZ⟩:=run_append_own (P:=P) w B t ty e i z 1 bytes ht hi hz gY fw m8 (by omega) _ _ _ be ⟨b',o',none⟩ ys.length c' ys (by rw[Nat.mul_one]) nF h1 qw fJ eQ;refine⟨v',w',fp,?_,by simpa [LY,hc0,Value.ownBlock] using aQ,(Below.refl B w).grown aQ eQ (fun k hk=>by simp[Value.ownBlock]at hk;omega)⟩;obtain⟨_,hf⟩:=dh;rcases hf with ⟨rfl,aE⟩|⟨g',cap,sC,rfl,mg,vz,q1,q2,q3,q4⟩
   ·omega
   ·refine⟨_,cap,by rw[List.length_append],by rw[List.length_append];exact q1,q2,.inr ⟨g',sC,rfl,mg,vz,by rw[q3,Nat.mul_one],?_⟩⟩;rw[List.length_append,<-Nat.mul_one (vs.length+ys.length)];exact q4
theorem JY {o:Oper} {a:Act} {K:Act->World->Prop} {Q:Exit->Act->World->Prop} (s x:Operand) (t:TypeId)
  (ho:o.op= .call { callee:= .builtin .append,args:= #[s,x],argTypes:= #[t,t] })
  (e:TypeId) (i:TypeInfo) (z:Value) (bytes:Nat) (ht:P.underlying t=some (.slice e)) (hi:P.info? e=some i) (hz:i.zero=some z)
  (gY:i.size=1) (fw:i.bytes=bytes) (m8:z.cells.size=1)
  (hs:a.eval s=v) (aG:CQ e B w v vs) (hx:a.eval x=src) (jR:Eb w src ys) (h1:∀u∈ys,u.oneCell'=true)
  (qw:vs.length+ys.length<=maxLen) (fJ:(vs.length+ys.length)*bytes<=140737488355328) (eQ:B<=w.heap.size)
  (h:∀v' w',CQ e B w' v' (vs++ys)->w.grownBy w' (LY v)->Below B w w'->K (a.put o.dst v') w'):o.wp P a w K Q:=by
 obtain⟨v',w',fp,h2,h3,h4⟩:=I4 (P:=P) t o.type e i z bytes ht hi hz gY fw m8 aG jR h1 qw fJ eQ;unfold Oper.wp execOp;simp only[ho,resolve,invoke,builtin,Sem.run_bind,Sem.run_pure,Result.andThen_ok,List.map_toArray,List.map_cons,List.map_nil,hs,hx,fp];exact h v' w' h2 h3 h4
theorem Gi {ops:Array Oper} {rest:List Oper} {o:Oper} {a:Act} {Q:Exit->Act->World->Prop} (jo:o.guard=none) (s x:Operand) (t:TypeId)
  (ho:o.op= .call { callee:= .builtin .append,args:= #[s,x],argTypes:= #[t,t] })
  (e:TypeId) (i:TypeInfo) (z:Value) (bytes:Nat) (ht:P.underlying t=some (.slice e)) (hi:P.info? e=some i) (hz:i.zero=some z)
  (gY:i.size=1) (fw:i.bytes=bytes) (m8:z.cells.size=1)
  (hs:a.eval s=v) (aG:CQ e B w v vs) (hx:a.eval x=src) (jR:Eb w src ys) (h1:∀u∈ys,u.oneCell'=true)
  (qw:vs.length+ys.length<=maxLen) (fJ:(vs.length+ys.length)*bytes<=140737488355328) (eQ:B<=w.heap.size)
  (h:∀v' w',CQ e B w' v' (vs++ys)->w.grownBy w' (LY v)->Below B w w'->wpList P ops Q rest (a.put o.dst v') w'):wpList P ops Q (o::rest) a w:=
 wpList_plain jo fun _ hK=>JY s x t ho e i z bytes ht hi hz gY fw m8 hs aG hx jR h1 qw fJ eQ fun v' w' h2 h3 h4=>hK _ _ (h v' w' h2 h3 h4)
end
def Arr(w:World)(v:Value)(xs:List Nat):Prop:=Ok xs/\Eb w v (xs.map d32)
def Own(B:Nat)(w:World)(v:Value)(xs:List Nat):Prop:=Ok xs/\CQ 183 B w v (xs.map d32)
section
variable {w w':World} {v:Value} {xs:List Nat} {B B':Nat}
theorem Arr.ok(h:Arr w v xs):Ok xs:=h.1
theorem Arr.ext(h:Arr w v xs)(hb:Ext w w'):Arr w' v xs:=⟨h.1,h.2.ext hb⟩
theorem Own.ok(h:Own B w v xs):Ok xs:=h.1
theorem Own.ext(h:Own B w v xs)(hb:Ext w w'):Own B w' v xs:=⟨h.1,h.2.ext hb⟩
theorem Own.mono(h:Own B w v xs)(hB:B'<=B):Own B' w v xs:=⟨h.1,h.2.mono hB⟩
theorem Own.arr(h:Own B w v xs):Arr w v xs:=⟨h.1,h.2.arr⟩
theorem Own.none_(B:Nat)(w:World):Own B w (.slice none 0 0) []:=⟨Cj,CQ.none_ _ B w⟩
theorem Arr.none_(w:World):Arr w (.slice none 0 0) []:=⟨Cj,Eb.none_ w⟩
theorem Fo{j:Nat}(hj:j<xs.length):(xs.map d32)[j]? =some (d32 (xs.getD j 0)):=by
 rw[List.getElem?_map,List.getD_eq_getElem?_getD,List.getElem?_eq_getElem hj];rfl
theorem Arr.open(h:Arr w v xs):Ok xs/\∃A c,v= .slice A xs.length c/\xs.length<=c/\c<=maxLen/\
  (0<xs.length->∃b o,A=some ⟨b,o,none⟩/\b<w.heap.size/\∀j,j<xs.length->w.cell? ⟨b,o+j,none⟩=some (d32 (xs.getD j 0))):=by
 obtain⟨h1,A,c,rfl,h2,h3,h4⟩:=h;rw[List.length_map]at h2 h4;refine⟨h1,A,c,by rw[List.length_map],h2,h3,fun hp=> ?_⟩;obtain⟨b,o,rfl,hlt,hc⟩:=h4 hp;exact⟨b,o,rfl,hlt,fun j hj=>hc j _ (Fo hj)⟩
theorem Arr.mk (az:Ok xs) {A:Option Addr} {c:Nat} (h2:xs.length<=c) (h3:c<=maxLen)
  (h4:0<xs.length->∃b o,A=some ⟨b,o,none⟩/\b<w.heap.size/\∀j,j<xs.length->w.cell? ⟨b,o+j,none⟩=some (d32 (xs.getD j 0))):Arr w (.slice A xs.length c) xs:=by
 refine⟨az,A,c,by rw[List.length_map],by rw[List.length_map];exact h2,h3,fun hp=> ?_⟩;rw[List.length_map]at hp;obtain⟨b,o,rfl,hlt,hc⟩:=h4 hp;refine⟨b,o,rfl,hlt,fun j u hj=> ?_⟩;have hl:j<xs.length:=by
  rcases Nat.lt_or_ge j xs.length with h|h
  ·exact h
  ·rw[List.getElem?_eq_none (by simpa using h)]at hj;cases hj
 rw[Fo hl]at hj;injection hj with hj
 rw[<-hj];exact hc j hl
theorem Arr.take(h:Arr w v xs)(n:Nat)(hn:n<=xs.length):∃A c,v= .slice A xs.length c/\Arr w (.slice A n c) (xs.take n):=by
 obtain⟨h1,A,c,rfl,h2,h3,h4⟩:=h.open;have hl:(xs.take n).length=n:=by rw[List.length_take,Nat.min_eq_left hn]
 have:=Arr.mk (w:=w) (A:=A) (c:=c) (h1.take n) (by omega) h3 (fun hp=>by
  obtain⟨b,o,rfl,hlt,hc⟩:=h4 (by omega);refine⟨b,o,rfl,hlt,fun j hj=> ?_⟩;have e:(xs.take n).getD j 0=xs.getD j 0:=by rw[List.getD_eq_getElem?_getD,List.getD_eq_getElem?_getD,List.getElem?_take_of_lt (by omega)]
  rw[e];exact hc j (by omega))
 rw[hl]at this;exact⟨A,c,rfl,this⟩
theorem Own.take(h:Own B w v xs)(n:Nat)(hn:n<=xs.length):∃A c,v= .slice A xs.length c/\Own B w (.slice A n c) (xs.take n):=by
 obtain⟨A,c,hv,h1⟩:=h.2.take n (by simpa using hn);rw[List.length_map]at hv;refine⟨A,c,hv,h.1.take n,?_⟩;rw[List.map_take];exact h1
theorem RB:∀u∈xs.map d32,u.oneCell'=true:=fun u hu=>by
 obtain⟨x,_,rfl⟩:=List.mem_map.1 hu;rfl
end
theorem JC:(Tryz.prog.info? 183).map (fun i=>(i.zero,i.size,i.bytes))=some (some (.int .u32 0),1,4):=by kernel_rfl
theorem Own.empty(B:Nat)(w:World)(A:Option Addr):Own B w (.slice A 0 0) []:=⟨Cj,CQ.empty _ B w A⟩
theorem OR{n:Nat}(h:n<=2147483648):n<=maxLen/\n*4<=140737488355328:=by unfold maxLen;omega
theorem AP {w:World} {v src:Value} {xs ys:List Nat} {B:Nat} {ops:Array Oper} {rest:List Oper} {o:Oper} {a:Act} {Q:Exit->Act->World->Prop} (jo:o.guard=none) (s x:Operand)
  (ho:o.op= .call { callee:= .builtin .append,args:= #[s,x],argTypes:= #[22,22] })
  (hs:a.eval s=v) (aG:Own B w v xs) (hx:a.eval x=src) (jR:Arr w src ys) (hn:xs.length+ys.length<=2147483648) (eQ:B<=w.heap.size)
  (h:∀v' w',Own B w' v' (xs++ys)->w.grownBy w' (LY v)->Below B w w'->wpList Tryz.prog ops Q rest (a.put o.dst v') w'):wpList Tryz.prog ops Q (o::rest) a w:=by
 obtain⟨i0,hi,aE,hz1,ba⟩:=info_parts JC;have hb:=OR hn;refine Gi jo s x 22 ho 183 i0 _ 4 Tryz.underlying22 hi aE hz1 ba rfl hs aG.2 hx jR.2 RB (by simpa using hb.1) (by simpa using hb.2) eQ (fun v' w' h1 h2 h3=>h v' w' ⟨aG.1.append jR.1,?_⟩ h2 h3);rw[List.map_append];exact h1
def zeros(n:Nat):Array Value:=((List.replicate n 0).map d32).toArray
def cells(xs:List Nat):Array Value:=(xs.map d32).toArray
theorem Ed(n:Nat):zeros n=cells (List.replicate n 0):=rfl
theorem I0(xs:List Nat):(cells xs).size=xs.length:=by simp[cells]
theorem Be(xs:List Nat)(i:Nat)(h:i<xs.length):(cells xs)[i]? =some (d32 (xs.getD i 0)):=by
 unfold cells;rw[List.getElem?_toArray];exact Fo h
theorem Bx(xs:List Nat)(i y:Nat):(cells xs).setIfInBounds i (d32 y)=cells (xs.set i y):=by
 apply Array.ext';simp[cells,List.map_set]
theorem NR(n:Nat):madeCells (Value.cells (.int .u32 0)) (n*1)=zeros n:=by
 apply Array.ext';apply List.ext_getElem?;intro i;simp only[madeCells,zeros,Value.cells];rw[Array.getElem?_toList,Array.getElem?_map,List.getElem?_map,List.getElem?_replicate];rcases Nat.lt_or_ge i n with h|h
 ·rw[Array.getElem?_range,if_pos (by omega),if_pos h];simp[d32,Nat.mod_one]
 ·rw[Array.getElem?_range,if_neg (by omega),if_neg (by omega)];rfl
theorem Cg(n:Nat)(hn:n<=2147483648)(W:World):(Instr.makeSlice 22 (.int .i64 (n:Int)) (.int .i64 (n:Int))).run Tryz.prog W=
  .ok (.slice (some ⟨W.heap.size,0,none⟩) n n) (W.alloc (.cells (zeros n) 183)):=by
 obtain⟨i0,hi,aE,hz1,ba⟩:=info_parts JC;have hr:=run_make (P:=Tryz.prog) W 22 183 i0 _ Tryz.underlying22 hi aE .i64 .i64 (n:Int) (n:Int) (by omega) (Int.le_refl _) (by rw[ba];omega) (by omega);rw[hz1,Int.toNat_natCast,NR]at hr;exact hr
theorem CV(n:Nat)(hn:n<=1073741824)(W:World):(Instr.makeSlice 22 (.int .i64 ((n:Int)+1)) (.int .i64 ((n:Int)+1))).run Tryz.prog W=
  .ok (.slice (some ⟨W.heap.size,0,none⟩) (n+1) (n+1)) (W.alloc (.cells (zeros (n+1)) 183)):=Cg (n+1) (by omega) W
theorem Own.block{B:Nat}{w:World}{g:Nat}{xs:List Nat}(az:Ok xs)(h:Blk w g 183 (cells xs))(hg:B<=g)(hm:xs.length<=2147483648):
  Own B w (.slice (some ⟨g,0,none⟩) xs.length xs.length) xs:=
 ⟨az,some ⟨g,0,none⟩,xs.length,by rw[List.length_map],by rw[List.length_map];omega,(OR hm).1,.inr ⟨g,cells xs,rfl,hg,h,I0 xs,by rw[List.length_map];show ((xs.map d32).toArray.toList).take xs.length=_;rw[List.take_of_length_le (by simp)]⟩⟩
theorem Dg(ys:List Nat)(k y:Nat):(ys++List.replicate (k+1) 0).set ys.length y=(ys++[y])++List.replicate k 0:=by
 rw[List.set_append_right _ _ (Nat.le_refl _),Nat.sub_self,List.replicate_succ,List.set_cons_zero,List.append_assoc];rfl
theorem I1(ys:List Nat)(k y:Nat):(List.replicate (k+1) 0++ys).set k y=List.replicate k 0++(y::ys):=by
 rw[List.set_append_left _ _ (by simp),List.replicate_succ',List.set_append_right _ _ (by simp),List.length_replicate,Nat.sub_self,List.set_cons_zero,List.append_assoc];rfl
theorem Ok.zeros(n:Nat):Ok (List.replicate n 0):=fun x hx=>by
 have:=List.eq_of_mem_replicate hx;omega
theorem Ok.snoc{xs:List Nat}(h:Ok xs){y:Nat}(hy:y<4294967296):Ok (xs++[y]):=h.append (Dq hy Cj)
theorem NM(r x:Nat)(hr:r<4294967296)(hx:x<4294967296):bits .or .u64 ((r:Int)*4294967296) (x:Int)=((r*4294967296+x:Nat):Int):=by
 have h1:((r:Int)*4294967296)=((r*4294967296:Nat):Int):=by omega
 rw[h1,bits_or_u64_nat _ _ (by omega) (by omega)];have h2:=Nat.shiftLeft_add_eq_or_of_lt (i:=32) (b:=x) (by omega) r;rw[Nat.shiftLeft_eq]at h2;exact congrArg Int.ofNat h2.symm
theorem Arr.fresh1(w:World)(y:Nat)(hy:y<4294967296):Arr (w.alloc (.cells #[d32 y] 183)) (.slice (some ⟨w.heap.size,0,none⟩) 1 1) [y]:=
 ⟨Dq hy Cj,Eb.one (by simp)⟩
theorem Arr.fresh1'(w:World)(t:Int)(y:Nat)(ht:t=(y:Int))(hy:y<4294967296):Arr (w.alloc (.cells #[.int .u32 t] 183)) (.slice (some ⟨w.heap.size,0,none⟩) 1 1) [y]:=by
 subst ht;exact Arr.fresh1 w y hy
theorem Own.fresh1'(w:World)(t:Int)(y:Nat)(ht:t=(y:Int))(hy:y<4294967296):Own w.heap.size (w.alloc (.cells #[.int .u32 t] 183)) (.slice (some ⟨w.heap.size,0,none⟩) 1 1) [y]:=by
 subst ht;exact Own.block (xs:=[y]) (Dq hy Cj) (Blk.new w _ _) (Nat.le_refl _) (by simp)
theorem Own.fresh2(w:World)(x y:Nat)(hx:x<4294967296)(hy:y<4294967296):Own w.heap.size (w.alloc (.cells #[d32 x,d32 y] 183)) (.slice (some ⟨w.heap.size,0,none⟩) 2 2) [x,y]:=
 Own.block (xs:=[x,y]) (Dq hx (Dq hy Cj)) (Blk.new w _ _) (Nat.le_refl _) (by simp)
theorem CQ.far{t:TypeId}{B:Nat}{w:World}{v:Value}{vs:List Value}(h:CQ t B w v vs){p:Addr}(hp:p.block<B)(u:Value):CQ t B (w.setCell p u) v vs:=by
 obtain⟨A,c,rfl,h2,h3,h4⟩:=h;refine⟨A,c,rfl,h2,h3,?_⟩;rcases h4 with h4|⟨g,cur,rfl,hg,ay,hs,ht⟩
 ·exact .inl h4
 ·exact .inr ⟨g,cur,rfl,hg,ay.far (by omega) u,hs,ht⟩
theorem Own.far{B:Nat}{w:World}{v:Value}{xs:List Nat}(h:Own B w v xs){p:Addr}(hp:p.block<B)(u:Value):Own B (w.setCell p u) v xs:=⟨h.1,h.2.far hp u⟩
theorem CB(w:World)(v:Value)(xs:List Nat)(h:Arr w v xs):
  Calls Tryz.prog 177 #[v] w fun e w'=>e= .returned (.int .i64 (size xs))/\w=w':=by
 obtain⟨az,A,c,rfl,hc,hm,aa⟩:=h.open;unfold maxLen at hm;go_enter Tryz.func177,Tryz.ntmps177
 go_wp2
 go_loop [3] (fun n=>∃k:Nat,k<=xs.length/\n= .int .i64 k/\∀i,k<=i->xs.getD i 0=0) (fun n=>(intOf n).toNat)
 case atStart=>exact⟨_,Nat.le_refl _,rfl,fun i hi=>by rw[List.getD_eq_getElem?_getD,List.getElem?_eq_none hi];rfl⟩
 case round=>
  obtain⟨k,hk,rfl,hz⟩:=hrel;have HZ:=hid hz;clear hz;have HC:=hid aa;clear aa;by_cases h0:k=0
  ·subst h0;have hs:=IZ xs 0 hk HZ.out (by omega);have HS:=hid hs;clear hs
   go_wp2
   go_ret;rw[HS.out];exact⟨rfl,rfl⟩
  ·obtain⟨b,o,rfl,hb,aa⟩:=HC.out (by omega);have hx:=aa (k-1) (by omega);clear aa;obtain⟨m,rfl⟩:∃m,k=m+1:=⟨k-1,by omega⟩;simp only[Nat.add_sub_cancel,d32]at hx;by_cases hx0:xs.getD m 0=0
   ·have fl:((xs.getD m 0:Int) == 0)=true:=by rw[hx0];rfl
    have HX:=hid hx0;clear hx0;obtain⟨y,hy⟩:∃y,xs.getD m 0=y:=⟨_,rfl⟩;rw[hy]at hx fl;clear hy
    go_wp2
    go_round
    case rel=>exact⟨m,by omega,by go_num,fun i hi=>by
     rcases Nat.lt_or_ge m i with h1|h1
     ·exact HZ.out i h1
     ·obtain rfl:i=m:=by omega
      exact HX.out⟩
    case measure=>simp[intOf]
   ·have fl:((xs.getD m 0:Int) == 0)=false:=by rw[beq_eq_false_iff_ne];omega
    have hs:=IZ xs (m+1) hk HZ.out (fun _=>hx0);have HS:=hid hs;clear hs;generalize xs.getD m 0=y at *;clear hx0
    go_wp2
    go_ret;rw[HS.out];exact⟨rfl,rfl⟩
end Big
end Go.Proofs.YtkoaogkknnelaaaGreatDoor
