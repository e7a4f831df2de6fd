import Derived.Test.YtkoaogkknnelaaaGreatDoorM11
import Derived.RegionTactic
import Derived.ChangeAlike
set_option linter.unusedVariables false
set_option linter.unusedSimpArgs false
namespace Go.Proofs.YtkoaogkknnelaaaGreatDoor
namespace Big
open Lib (hid)
open Go.RowKit
@[go_sem high] theorem Qj (l:List UInt8):Value.cells.match_1 (fun _=>Array Value) (str l) (fun cs=>cs) (fun v=> #[v])= #[str l]:=rfl
def Uh(B g:Nat)(w:World)(L:Value)(l:List Int)(xs:List Nd)(d:Nat)(e:Ending)(w':World):Prop:=
 ∃(x:Ex) (v':Value) (a':Nat),e= .returned v'/\x.Good/\x.size+1<=2 ^ d/\x.depth<=d/\AB B w' v' (xs++Ah xs.length x)/\BC B g w' L l a'/\KB B g w w'
theorem BV(w:World)(ty:TypeId)(cs:List Value):∀(j:Nat) (u:Value),cs[j]? =some u->(w.alloc (.cells cs.toArray ty)).cell? ((⟨w.heap.size,0,none⟩:Addr).add j)=some u:=fun j u hj=>by
 have h1:=(Blk.new w ty cs.toArray).cell j;have h2:(⟨w.heap.size,0,none⟩:Addr).add j=⟨w.heap.size,j,none⟩:=by
  unfold Addr.add;split
  ·rename_i h;subst h;rfl
  ·simp
 rw[h2,h1,<-hj,List.getElem?_toArray]
theorem Dm {B n:Nat} {W W':World} {xs:List Nd} {nd:Nd} {v v':Value} (hn:n=xs.length) (ho:Obj) (a9:AB B W v xs) (hB:B<=W.heap.size)
  (ai:W'.ownsRow B 95 5 v' (n+1) (Bz xs++ndC nd)) (au:(W.alloc ho).grownBy W' v.ownBlock):AB B W' v' (xs++[nd])/\Below B W W':=by
 refine⟨?_,?_⟩
 ·unfold AB;rw[CW,Ek,List.length_append,List.length_singleton,<-hn];exact ai
 ·exact Below.grown ((Below.refl B W).alloc hB ho) au (by simp;omega) (fun k hk=>AH a9 k hk)
theorem AB.kbx{B g:Nat}{w w':World}{v:Value}{l:List Nd}(h:AB B w v l)(hg:g<B)(hk:∀B',KB B' g w w'):AB B w' v l:=
 h.kept (fun k h1 h2=>(hk w.heap.size).block k h2 (by omega))
theorem AB.kbs{B g:Nat}{w w':World}{v:Value}{l:List Nd}(h:AB B w v l)(hg:g<B)(hk:KB w.heap.size g w w'):AB B w' v l:=
 h.kept (fun k h1 h2=>hk.block k h2 (by omega))
theorem AB.ext{B:Nat}{w w':World}{v:Value}{l:List Nd}(h:AB B w v l)(hk:Ext w w'):AB B w' v l:=
 h.kept (fun k _h1 h2=>hk.block k h2)
theorem PG{x:Int}(h0:0<=x)(h1:x<5):∃t,∃h:x.toNat<GQ.length,GQ[x.toNat]=t/\Dv t=true/\t.length<=5:=by
 obtain⟨n,rfl⟩:=Int.eq_ofNat_of_zero_le h0;have hn:n<GQ.length:=by show n<5;omega
 refine⟨GQ[n],hn,rfl,?_⟩;have hall:∀t∈GQ,Dv t=true/\t.length<=5:=by decide+kernel
 exact hall _ (List.getElem_mem hn)
theorem Dr.belowN{w w':World}(h:Dr w w')(B:Nat):Below B w w':=by
 have h1:=h.grown none;exact⟨h1.os,h1.tape,h1.output,h1.size,fun g _=>by rw[h.heap]⟩
theorem AB.shape3{B:Nat}{w:World}{v:Value}{l:List Nd}(h:AB B w v l):∃A c n,v= .slice A n c/\n=l.length:=by
 obtain⟨A,c,h1⟩:=h.shape;exact⟨A,c,_,h1,rfl⟩
theorem IP{d:Nat}(h:1<=d):2<=2 ^ d:=by
 calc 2=2 ^ 1:=rfl
  _<=2 ^ d:=Nat.pow_le_pow_right (by omega) h
theorem Pd(w:World)(v u:Value)(xs ys:List Nat)(h:Arr w v xs)(h':Arr w u ys)(hn:xs.length<=1073741824)(bh:ys.length<=1073741824):
  Calls Tryz.prog 72 #[v,u] w fun e w'=>e= .returned (.bool (decide (xs.length=ys.length) && decide (val xs=val ys)))/\w=w':=by
 have HC:=hid (DJ w v u xs ys h h' hn bh);obtain⟨ax,A,c,rfl,hc,hm,aa⟩:=h.open;obtain⟨bE,A',c',rfl,jc,kY,an⟩:=h'.open;clear h h' aa an hm kY;by_cases hl:xs.length=ys.length
 ·have hb:((xs.length:Int) == (ys.length:Int))=true:=by rw[hl];simp
  have HL:=hid hl;clear hl;by_cases hv:val xs=val ys
  ·have fq:(BQ (val xs) (val ys) == 0)=true:=by rw[K4 hv];rfl
   have HV:=hid hv;clear hv;generalize BQ (val xs) (val ys)=cc at HC fq;go_enter Tryz.func72,Tryz.ntmps72;go_wp2_with fail;refine HC.out.mono ?_;rintro e w' ⟨rfl,rfl⟩
   go_wp2_with fail;go_ret;exact⟨by rw[decide_eq_true HL.out,decide_eq_true HV.out];rfl,rfl⟩
  ·have fq:(BQ (val xs) (val ys) == 0)=false:=by
    rw[beq_eq_false_iff_ne];unfold BQ;split<;>(try split)<;>omega
   have HV:=hid hv;clear hv;generalize BQ (val xs) (val ys)=cc at HC fq;go_enter Tryz.func72,Tryz.ntmps72;go_wp2_with fail;refine HC.out.mono ?_;rintro e w' ⟨rfl,rfl⟩
   go_wp2_with fail;go_ret;exact⟨by rw[decide_eq_true HL.out,decide_eq_false HV.out];rfl,rfl⟩
 ·have hb:((xs.length:Int) == (ys.length:Int))=false:=by rw[beq_eq_false_iff_ne];omega
  have HL:=hid hl;clear hl HC;go_enter Tryz.func72,Tryz.ntmps72;go_wp2_with fail;go_ret;exact⟨by rw[decide_eq_false HL.out];rfl,rfl⟩
def Si(w0 wr:World)(B g:Nat)(bs:List UInt8)(c k:Nat):Prop:=
 ∃cur:Array Value,Blk wr g 5 cur/\cur.size=c/\Below B w0 wr/\
  (∀p,p<bs.length->cur[p]? =some (d8 (if p<k\/bs.length-k<=p then bs.getD (bs.length-1-p) 0 else bs.getD p 0)))
theorem Si.step{w0 wr:World}{B g:Nat}{bs:List UInt8}{c k:Nat}(h:Si w0 wr B g bs c k)(hB:B<=g)(hc:bs.length<=c)(hk:k<bs.length-1-k):
  Si w0 (((wr.setCell ⟨g,k,none⟩ (d8 (bs.getD (bs.length-1-k) 0))).setCell ⟨g,bs.length-1-k,none⟩ (d8 (bs.getD k 0)))).drew B g bs c (k+1):=by
 obtain⟨cur,h1,h2,h3,h4⟩:=h;refine⟨_,((h1.set_ k _).set_ (bs.length-1-k) _).drew,by simp[h2],((h3.setCell hB _).setCell hB _).drew,fun p hp=> ?_⟩;rw[Array.getElem?_setIfInBounds,Array.getElem?_setIfInBounds];by_cases e1:bs.length-1-k=p
 ·subst e1;rw[if_pos rfl,if_pos (by simp;omega)];rw[if_pos (by omega)]
  congr 3
  omega
 ·rw[if_neg e1];by_cases e2:k=p
  ·subst e2;rw[if_pos rfl,if_pos (by omega),if_pos (by omega)]
  ·rw[if_neg e2,h4 p hp];by_cases e3:p<k\/bs.length-k<=p
   ·rw[if_pos e3,if_pos (by omega)]
   ·rw[if_neg e3,if_neg (by omega)]
end Big
end Go.Proofs.YtkoaogkknnelaaaGreatDoor
