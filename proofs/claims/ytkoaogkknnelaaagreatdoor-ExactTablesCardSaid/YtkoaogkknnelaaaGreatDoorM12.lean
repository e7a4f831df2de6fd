import Derived.Test.YtkoaogkknnelaaaGreatDoorM11
set_option linter.unusedVariables false
set_option linter.unusedSimpArgs false
namespace Go.Proofs.YtkoaogkknnelaaaGreatDoor
namespace Big
open Lib renaming hid → J
def Co(x:Nd):Bool:=if x.kind=1 then Bh x.text == 0 else if x.kind=2 then DQ x.text else x.text == []
def Cc(x:Nd):Bool:=if x.kind=10 then decide (-64<=x.n/\x.n<=64) else x.n == 0
def AA(x:Nd):Bool:=Co x && Cc x
def Bd(S D:List Nat)(x:Nd):Option (Nat × Nat):=
 if Az x.kind<0\/AA x=false\/(Az x.kind<1/\x.a≠0)\/(Az x.kind<2/\x.b≠0) then none
 else if Az x.kind=0 then some (1,1)
 else if Az x.kind=1 then
  (if x.a≠(S.length:Int)-1\/x.a<0 then none else some (S.getD x.a.toNat 0+1,max 1 (D.getD x.a.toNat 0+1)))
 else if x.b≠(S.length:Int)-1\/x.b<0 then none
 else if x.a≠(S.length:Int)-((S.getD x.b.toNat 0+1:Nat):Int)\/x.a<0 then none
 else some (S.getD x.b.toNat 0+1+S.getD x.a.toNat 0,max (max 1 (D.getD x.b.toNat 0+1)) (D.getD x.a.toNat 0+1))
def Gd:List Nat->List Nat->List Nd->Option (List Nat × List Nat)
 |S,D,[]=>some (S,D)
 |S,D,x::t=>match Bd S D x with
  |none=>none
  |some (s,d)=>Gd (S++[s]) (D++[d]) t
def Ep(l:List Nd):Option (List Nat × List Nat):=match Gd [] [] l with
 |none=>none
 |some (S,D)=>if l.length=0\/S.getD (l.length-1) 0≠l.length then none else some (S,D)
def Gb(l:List Nd):Bool:=decide (1<=l.length/\l.length<=200) && match Ep l with
 |none=>false
 |some (_,D)=>decide (D.getD (l.length-1) 0<=40)
theorem Fp(l m:List Nd):∀S D,Gd S D (l++m)=(match Gd S D l with|none=>none|some (S',D')=>Gd S' D' m):=by
 induction l with
 |nil=>intro S D;rfl
 |cons x t ih=>
  intro S D;rw[qbD,Gd,Gd];cases Bd S D x with
  |none=>rfl
  |some p=>exact ih _ _
def szE:Ex->List Nat
 | .leaf _ _=>[1]
 | .un _ _ x=>szE x++[x.size+1]
 | .bin _ x y=>szE x++szE y++[x.size+y.size+1]
def dpE:Ex->List Nat
 | .leaf _ _=>[1]
 | .un _ _ x=>dpE x++[x.depth+1]
 | .bin _ x y=>dpE x++dpE y++[max x.depth y.depth+1]
theorem EY(e:Ex):(szE e).length=e.size:=by
 induction e with
 |leaf k t=>rfl
 |un k n x ih=>rw[szE,qac,ih];rfl
 |bin k x y ihx ihy=>rw[szE,qac,qac,ihx,ihy];rfl
theorem I6(e:Ex):(dpE e).length=e.size:=by
 induction e with
 |leaf k t=>rfl
 |un k n x ih=>rw[dpE,qac,ih];rfl
 |bin k x y ihx ihy=>rw[dpE,qac,qac,ihx,ihy];rfl
theorem Dd{L M:List Nat}{x:Nat}{i:Nat}(h:i=L.length+M.length):(L++(M++[x])).getD i 0=x:=by
 subst h;rw[qaa,qai (by omega),qbu,qai (qab _),qaR];rfl
theorem GC(e:Ex)(L:List Nat)(i:Nat)(h:i+1=L.length+e.size):(L++szE e).getD i 0=e.size:=by
 cases e with
 |leaf k t=>exact Dd (M:=[]) (by have h2:i+1=L.length+1:=h;simp;omega)
 |un k n x=>rw[szE];have:=EY x;exact Dd (by have h2:i+1=L.length+(x.size+1):=h;omega)
 |bin k x y=>rw[szE];have:=EY x;have:=EY y;exact Dd (by have h2:i+1=L.length+(x.size+y.size+1):=h;rw[qac];omega)
theorem Hd(e:Ex)(L:List Nat)(i:Nat)(h:i+1=L.length+e.size):(L++dpE e).getD i 0=e.depth:=by
 cases e with
 |leaf k t=>exact Dd (M:=[]) (by have h2:i+1=L.length+1:=h;simp;omega)
 |un k n x=>rw[dpE];have:=I6 x;exact Dd (by have h2:i+1=L.length+(x.size+1):=h;omega)
 |bin k x y=>rw[dpE];have:=I6 x;have:=I6 y;exact Dd (by have h2:i+1=L.length+(x.size+y.size+1):=h;rw[qac];omega)
theorem FX{L M:List Nat}{i:Nat}(h:i<L.length):(L++M).getD i 0=L.getD i 0:=by
 rw[qaa,qaa,qat h]
theorem RZ{k:Nat}{n:Int}{x:Ex}(h:(Ex.un k n x).Good)(a b:Int):AA ⟨(k:Int),a,b,n,[]⟩=true:=by
 obtain⟨h1,h2,h3,h4,_⟩:=h;unfold AA Co Cc;rw[if_neg (by simp only;omega),if_neg (by simp only;omega)];by_cases hk:k=10
 ·subst hk;simp;omega
 ·rw[if_neg (by simp only;omega)];simp[h2 hk]
theorem Pp(e:Ex)(hg:e.Good):∀S D:List Nat,D.length=S.length->Gd S D (Ak S.length e)=some (S++szE e,D++dpE e):=by
 induction e with
 |leaf k t=>
  intro S D hD;have h1:Bd S D ⟨(k:Int),0,0,0,t⟩=some (1,1):=by
   have hk:1<=k/\k<=4:=by unfold Ex.Good at hg;omega
   have ho:Az (k:Int)=0:=by unfold Az;rw[if_neg (by omega),if_pos (by omega)]
   have hp:AA ⟨(k:Int),0,0,0,t⟩=true:=by
    unfold AA Co Cc;rw[if_neg (c:=(k:Int)=10) (by omega)];rcases hg with ⟨rfl,h,_⟩|⟨rfl,h⟩|⟨h,rfl⟩
    ·simp[h]
    ·simp[h]
    ·rw[if_neg (by simp only;omega),if_neg (by simp only;omega)];rfl
   unfold Bd;rw[ho,hp];simp
  rw[Ak,Gd,h1];rfl
 |un k n x ih=>
  intro S D hD;have hx:=hg.2.2.2.2;have hz:=x.size_pos;have hk:=hg.1;have ho:Az (k:Int)=1:=by unfold Az;rw[if_neg (by omega),if_neg (by omega),if_neg (by omega)]
  rw[Ak,Fp,ih hx S D hD];have h1:Bd (S++szE x) (D++dpE x) ⟨(k:Int),((S.length+x.size-1:Nat):Int),0,n,[]⟩=some (x.size+1,x.depth+1):=by
   have h2:=GC x S (S.length+x.size-1) (by omega);have h3:=Hd x D (S.length+x.size-1) (by omega);unfold Bd;simp only[ho,RZ hg,qaq,h2,h3,qac,EY];rw[if_neg (by simp),if_neg (by decide),if_pos trivial,if_neg (by omega),Nat.max_eq_right (by omega)]
  simp only[Gd,h1];simp[szE,dpE]
 |bin k x y ihx ihy=>
  intro S D hD;have hx:=hg.2.1;have hy:=hg.2.2;have hz:=x.size_pos;have bu:=y.size_pos;have hk:=hg.1;have ho:Az (k:Int)=2:=by unfold Az;rw[if_neg (by omega),if_neg (by omega),if_pos (by omega)]
  have hp:AA ⟨(k:Int),((S.length+x.size-1:Nat):Int),((S.length+x.size+y.size-1:Nat):Int),0,[]⟩=true:=by
   unfold AA Co Cc;rw[if_neg (by simp only;omega),if_neg (by simp only;omega),if_neg (by simp only;omega)];rfl
  have hl:S.length+x.size=(S++szE x).length:=by rw[qac,EY]
  have hl2:D.length+x.size=(D++dpE x).length:=by rw[qac,I6]
  have h0:=ihy hy (S++szE x) (D++dpE x) (by rw[<-hl,<-hl2,hD]);rw[Ak,Fp,ihx hx S D hD];simp only;rw[Fp,hl,h0,<-hl];have h1:Bd ((S++szE x)++szE y) ((D++dpE x)++dpE y) ⟨(k:Int),((S.length+x.size-1:Nat):Int),((S.length+x.size+y.size-1:Nat):Int),0,[]⟩=some (x.size+y.size+1,max x.depth y.depth+1):=by
   have h2:=GC y (S++szE x) (S.length+x.size+y.size-1) (by omega);have h3:=Hd y (D++dpE x) (S.length+x.size+y.size-1) (by omega);have h4:=(FX (L:=S++szE x) (M:=szE y) (i:=S.length+x.size-1) (by omega)).trans (GC x S (S.length+x.size-1) (by omega));have h5:=(FX (L:=D++dpE x) (M:=dpE y) (i:=S.length+x.size-1) (by omega)).trans (Hd x D (S.length+x.size-1) (by omega));unfold Bd;simp only[ho,hp,qaq,h2,h3,h4,h5];rw[if_neg (by simp),if_neg (by decide),if_neg (by decide),if_neg (by rw[qac,<-hl,EY];omega),if_neg (by rw[qac,<-hl,EY];omega)]
   congr 2
   ·omega
   ·omega
  simp only[Gd,h1];simp[szE,dpE]
theorem Ih(e:Ex)(hg:e.Good):Gb (Ak 0 e)=decide (e.size<=200/\e.depth<=40):=by
 have h:=Pp e hg [] [] rfl;have hz:=e.size_pos;have h1:=GC e [] (e.size-1) (by simp;omega);have h2:=Hd e [] (e.size-1) (by simp;omega);rw[qaU]at h h1 h2;rw[qaU,qaZ]at h;unfold Gb Ep;rw[h,AD];simp only[h1];rw[if_neg (by omega)];simp only[h2];rw[<-Bool.decide_and,decide_eq_decide];omega
structure OD (S D:List Nat):Prop where
 len:D.length=S.length
 size:∀j,j<S.length->S.getD j 0<=j+1
 depth:∀j,j<S.length->D.getD j 0<=j+1
theorem OD.nil:OD [] []:=⟨rfl,fun j h=>by simp at h,fun j h=>by simp at h⟩
theorem OD.step{S D:List Nat}{x:Nd}{s d:Nat}(h:OD S D)(hs:Bd S D x=some (s,d)):s<=S.length+1/\d<=S.length+1/\OD (S++[s]) (D++[d]):=by
 have key:s<=S.length+1/\d<=S.length+1:=by
  unfold Bd at hs;split at hs
  ·cases hs
  ·split at hs
   ·injection hs with hs;injection hs with h1 h2;omega
   ·split at hs
    ·split at hs
     ·cases hs
     ·rename_i hc;injection hs with hs
      injection hs with h1 h2
      have:=h.size x.a.toNat (by omega);have:=h.depth x.a.toNat (by omega);omega
    ·split at hs
     ·cases hs
     ·rename_i hc;have q1:=h.size x.b.toNat (by omega);have q2:=h.depth x.b.toNat (by omega);split at hs
      ·cases hs
      ·rename_i df;injection hs with hs
       injection hs with h1 h2
       have q3:=h.size x.a.toNat (by omega);have q4:=h.depth x.a.toNat (by omega);omega
 refine⟨key.1,key.2,?_,fun j hj=> ?_,fun j hj=> ?_⟩
 ·rw[qac,qac,h.len];rfl
 ·rw[qac,qal]at hj;rcases qah j S.length with h1|h1
  ·rw[FX h1];exact h.size j h1
  ·have h2:=Dd (L:=S) (M:=[]) (x:=s) (i:=j) (by simp;omega);rw[qaU]at h2;rw[h2];omega
 ·rw[qac,qal]at hj;rcases qah j S.length with h1|h1
  ·rw[FX (by rw[h.len];exact h1)];exact h.depth j h1
  ·have h2:=Dd (L:=D) (M:=[]) (x:=d) (i:=j) (by rw[h.len];simp;omega);rw[qaU]at h2;rw[h2];omega
open Go.RowKit
@[go_sem high] theorem QS (l:List UInt8):Value.cells.match_1 (fun _=>Array Value) (str l) (fun cs=>cs) (fun v=> #[v])= #[str l]:=rfl
theorem Cd(w:World)(ty:TypeId)(cs:List Value):∀(j:Nat) (u:Value),cs[j]? =some u->(w.alloc (.cells cs.toArray ty)).cell? ((⟨w.heap.size,0,none⟩:Addr).add j)=some u:=fun j u hj=>by
 have h1:=(Blk.new w ty cs.toArray).cell j;have h2:(⟨w.heap.size,0,none⟩:Addr).add j=⟨w.heap.size,j,none⟩:=by
  unfold Addr.add;split
  ·rename_i h;subst h;rfl
  ·simp
 rw[h2,h1,<-hj,qbL]
theorem DF {B n:Nat} {W W':World} {xs:List Nd} {nd:Nd} {v v':Value} (hn:n=xs.length) (ho:Obj) (bc:AB B W v xs) (hB:B<=W.heap.size)
  (al:W'.ownsRow B 95 5 v' (n+1) (BR xs++ndC nd)) (aC:(W.alloc ho).grownBy W' v.ownBlock):AB B W' v' (xs++[nd])/\Below B W W':=by
 refine⟨?_,?_⟩
 ·unfold AB;rw[Dc,EM,qac,qal,<-hn];exact al
 ·exact Below.grown ((Below.refl B W).alloc hB ho) aC (by simp;omega) (fun k hk=>AQ bc k hk)
theorem AB.kbx{B g:Nat}{w w':World}{v:Value}{l:List Nd}(h:AB B w v l)(hg:g<B)(hk:∀B',KB B' g w w'):AB B w' v l:=
 h.kept (fun k h1 h2=>(hk w.heap.size).block k h2 (by omega))
theorem AB.kbs{B g:Nat}{w w':World}{v:Value}{l:List Nd}(h:AB B w v l)(hg:g<B)(hk:KB w.heap.size g w w'):AB B w' v l:=
 h.kept (fun k h1 h2=>hk.block k h2 (by omega))
theorem AB.ext{B:Nat}{w w':World}{v:Value}{l:List Nd}(h:AB B w v l)(hk:Ext w w'):AB B w' v l:=
 h.kept (fun k _h1 h2=>hk.block k h2)
theorem Qg{x:Int}(h0:0<=x)(h1:x<5):∃t,∃h:x.toNat<H5.length,H5[x.toNat]=t/\DQ t=true/\t.length<=5:=by
 obtain⟨n,rfl⟩:=qbF h0;have hn:n<H5.length:=by show n<5;omega
 refine⟨H5[n],hn,rfl,?_⟩;have hall:∀t∈H5,DQ t=true/\t.length<=5:=by decide+kernel
 exact hall _ (qaw hn)
theorem Dr.belowN{w w':World}(h:Dr w w')(B:Nat):Below B w w':=by
 have h1:=h.grown none;exact⟨h1.os,h1.tape,h1.output,h1.size,fun g _=>by rw[h.heap]⟩
theorem AB.shape3{B:Nat}{w:World}{v:Value}{l:List Nd}(h:AB B w v l):∃A c n,v= .slice A n c/\n=l.length:=by
 obtain⟨A,c,h1⟩:=h.shape;exact⟨A,c,_,h1,rfl⟩
theorem Jx{d:Nat}(h:1<=d):2<=2 ^ d:=by
 calc 2=2 ^ 1:=rfl
  _<=2 ^ d:=qbe (by omega) h
theorem PM(w:World)(v u:Value)(xs ys:List Nat)(h:Arr w v xs)(h':Arr w u ys)(hn:xs.length<=1073741824)(bA:ys.length<=1073741824):
  Calls Tryz.prog 72 #[v,u] w fun e w'=>e= .returned (.bool (decide (xs.length=ys.length) && decide (val xs=val ys)))/\w=w':=by
 have HC:=J (DD w v u xs ys h h' hn bA);obtain⟨aA,A,c,rfl,hc,hm,aa⟩:=h.open;obtain⟨bR,A',c',rfl,gH,mO,ar⟩:=h'.open;clear h h' aa ar hm mO;by_cases hl:xs.length=ys.length
 ·have hb:((xs.length:Int) == (ys.length:Int))=true:=by rw[hl];simp
  have HL:=J hl;clear hl;by_cases hv:val xs=val ys
  ·have gG:(BZ (val xs) (val ys) == 0)=true:=by rw[LL hv];rfl
   have HV:=J hv;clear hv;generalize BZ (val xs) (val ys)=cc at HC gG;go_enter Tryz.func72,Tryz.ntmps72;go_wp2_with fail;refine HC.o.mono ?_;rintro e w' ⟨rfl,rfl⟩
   go_wp2_with fail;go_ret;exact⟨by rw[decide_eq_true HL.o,decide_eq_true HV.o];rfl,rfl⟩
  ·have gG:(BZ (val xs) (val ys) == 0)=false:=by
    rw[beq_eq_false_iff_ne];unfold BZ;split<;>(try split)<;>omega
   have HV:=J hv;clear hv;generalize BZ (val xs) (val ys)=cc at HC gG;go_enter Tryz.func72,Tryz.ntmps72;go_wp2_with fail;refine HC.o.mono ?_;rintro e w' ⟨rfl,rfl⟩
   go_wp2_with fail;go_ret;exact⟨by rw[decide_eq_true HL.o,decide_eq_false HV.o];rfl,rfl⟩
 ·have hb:((xs.length:Int) == (ys.length:Int))=false:=by rw[beq_eq_false_iff_ne];omega
  have HL:=J hl;clear hl HC;go_enter Tryz.func72,Tryz.ntmps72;go_wp2_with fail;go_ret;exact⟨by rw[decide_eq_false HL.o];rfl,rfl⟩
end Big
end Go.Proofs.YtkoaogkknnelaaaGreatDoor
