import Derived.Test.YtkoaogkknnelaaaGreatDoorM8
set_option linter.unusedVariables false
set_option linter.unusedSimpArgs false
namespace Go.Proofs.YtkoaogkknnelaaaGreatDoor
namespace Big
open Lib renaming hid → J
open Go.RowKit
@[go_sem high] theorem QE (l:List UInt8):Value.cells.match_1 (fun _=>Array Value) (str l) (fun cs=>cs) (fun v=> #[v])= #[str l]:=rfl
def TQ(B g:Nat)(w:World)(L:Value)(l:List Int)(xs:List Nd)(d:Nat)(e:Ending)(w':World):Prop:=
 ∃(x:Ex) (v':Value) (a':Nat),e= .returned v'/\x.Good/\x.size+1<=2 ^ d/\x.depth<=d/\Ak B w' v' (xs++Ag xs.length x)/\BI B g w' L l a'/\KB B g w w'
theorem Bw(w:World)(ty:TypeId)(cs:List Value):∀(j:Nat) (u:Value),cs[j]? =some u->(w.alloc (.cells cs.toArray ty)).cell? ((⟨w.heap.size,0,none⟩:Addr).add j)=some u:=fun j u hj=>by
 have h1:=(Blk.new w ty cs.toArray).cell j;have h2:(⟨w.heap.size,0,none⟩:Addr).add j=⟨w.heap.size,j,none⟩:=by
  unfold Addr.add;split
  ·rename_i h;subst h;rfl
  ·simp
 rw[h2,h1,<-hj,List.getElem?_toArray]
theorem DV {B n:Nat} {W W':World} {xs:List Nd} {nd:Nd} {v v':Value} (hn:n=xs.length) (ho:Obj) (aH:Ak B W v xs) (hB:B<=W.heap.size)
  (ag:W'.ownsRow B 95 5 v' (n+1) (Bm xs++ndC nd)) (al:(W.alloc ho).grownBy W' v.ownBlock):Ak B W' v' (xs++[nd])/\Below B W W':=by
 refine⟨?_,?_⟩
 ·unfold Ak;rw[Cz,EY,List.length_append,List.length_singleton,<-hn];exact ag
 ·exact Below.grown ((Below.refl B W).alloc hB ho) al (by simp;omega) (fun k hk=>AC aH k hk)
theorem Ak.kbx{B g:Nat}{w w':World}{v:Value}{l:List Nd}(h:Ak B w v l)(hg:g<B)(hk:∀B',KB B' g w w'):Ak B w' v l:=
 h.kept (fun k h1 h2=>(hk w.heap.size).block k h2 (by omega))
theorem Ak.kbs{B g:Nat}{w w':World}{v:Value}{l:List Nd}(h:Ak B w v l)(hg:g<B)(hk:KB w.heap.size g w w'):Ak B w' v l:=
 h.kept (fun k h1 h2=>hk.block k h2 (by omega))
theorem Ak.ext{B:Nat}{w w':World}{v:Value}{l:List Nd}(h:Ak B w v l)(hk:Ext w w'):Ak B w' v l:=
 h.kept (fun k _h1 h2=>hk.block k h2)
theorem P3{x:Int}(h0:0<=x)(h1:x<5):∃t,∃h:x.toNat<DK.length,DK[x.toNat]=t/\Cs t=true/\t.length<=5:=by
 obtain⟨n,rfl⟩:=Int.eq_ofNat_of_zero_le h0;have hn:n<DK.length:=by show n<5;omega
 refine⟨DK[n],hn,rfl,?_⟩;have hall:∀t∈DK,Cs t=true/\t.length<=5:=by decide+kernel
 exact hall _ (List.getElem_mem hn)
theorem Dr.belowN{w w':World}(h:Dr w w')(B:Nat):Below B w w':=by
 have h1:=h.grown none;exact⟨h1.os,h1.tape,h1.output,h1.size,fun g _=>by rw[h.heap]⟩
theorem Ak.shape3{B:Nat}{w:World}{v:Value}{l:List Nd}(h:Ak B w v l):∃A c n,v= .slice A n c/\n=l.length:=by
 obtain⟨A,c,h1⟩:=h.shape;exact⟨A,c,_,h1,rfl⟩
theorem Jp{d:Nat}(h:1<=d):2<=2 ^ d:=by
 calc 2=2 ^ 1:=rfl
  _<=2 ^ d:=Nat.pow_le_pow_right (by omega) h
def Pi(w0 wr:World)(xs:List Nat)(d k r:Nat):Prop:=
 ∃qs:List Nat,k+qs.length=xs.length/\Ok qs/\val qs*d+r=val (xs.drop k)/\
  Blk wr w0.heap.size 183 (cells (List.replicate k 0++qs))/\Ext w0 wr
theorem Pi.step {w0 wr:World} {xs qs:List Nat} {d k r y:Nat} (hl:k+1+qs.length=xs.length) (av:Ok qs) (hy:y<4294967296)
  (hv:val (y::qs)*d+r=val (xs.drop k))
  (hb:Blk wr w0.heap.size 183 (cells (List.replicate (k+1) 0++qs))) (he:Ext w0 wr):
  Pi w0 (wr.setCell ⟨w0.heap.size,k,none⟩ (d32 y)) xs d k r:=by
 refine⟨y::qs,by simp;omega,Du hy av,hv,?_,he.setCell (Nat.le_refl _) _⟩;have h1:=hb.set_ k (d32 y);rw[CI,Jd]at h1;exact h1
theorem NQ(w:World)(v:Value)(xs:List Nat)(d:Nat)(h:Arr w v xs)(hn:xs.length<=536870912)(o9:0<d)(hd:d<4294967296):
  Calls Tryz.prog 291 #[v,.int .u32 (d:Int)] w fun e w'=>∃v',e= .returned (.tuple #[v',.int .u32 ((val xs % d:Nat):Int),.bool true])/\Own w.heap.size w' v' (Af (val xs / d))/\Ext w w':=by
 have HA:=J h;obtain⟨av,A,cap,rfl,dK,gP,ac⟩:=h.open;have HM:=J gP;have HC:=J ac;have dZ:=Es xs.length (by omega);have mF:=J dZ;clear h ac gP dK;have qJ:((d:Int) == 0)=false:=by rw[beq_eq_false_iff_ne];omega
 go_enter Tryz.func291,Tryz.ntmps291;go_wp2_with fail;clear dZ;go_loopw [8,9] (fun rv i wr=>∃k r:Nat,k<=xs.length/\r<d/\i= .int .i64 ((k:Int)-1)/\rv= .int .u64 r/\Pi w wr xs d k r) (fun _ i _=>(intOf i+1).toNat)
 case atStart=>exact⟨xs.length,0,Nat.le_refl _,o9,rfl,rfl,[],rfl,Cx,by simp[val],by simpa [Fz] using Blk.new w 183 (zeros xs.length),(Ext.refl w).alloc _⟩
 case round=>
  obtain⟨k,r,hk,hr,rfl,rfl,qs,hl,dq,hv,aw,an⟩:=hrel;have HV:=J hv;clear hv;have HB:=J aw;clear aw;have HL:=J hl;clear hl;rcases Nat.eq_zero_or_pos k with h0|h0
  ·subst h0;obtain⟨jb,pB⟩:=Lv hr (by simpa using HV.o);have ao:qs.length=xs.length:=by simpa using HL.o
   have bQ:Own w.heap.size wr (.slice (some ⟨w.heap.size,0,none⟩) xs.length xs.length) qs:=by
    have h3:=Own.block (B:=w.heap.size) dq (by simpa using HB.o) (Nat.le_refl _) (by omega)
    rwa [ao]at h3
   have HT:=J (BU _ _ _ bQ.arr (by omega));rw[jb]at HT;have qy:(r:Int) % 4294967296=((val xs % d:Nat):Int):=by omega
   have HR:=J qy;have eN:=J pB;clear qy jb pB bQ ao;go_wp2_with fail;refine HT.o.mono ?_
   rintro e w' ⟨v',rfl,ho,hx⟩;go_wp2_with fail;go_ret3;first
    |exact⟨_,congrArg (fun z:Int=>Ending.returned (.tuple #[v',.int .u32 z,.bool true])) HR.o,ho.mono an.size,an.trans hx⟩
    |exact⟨_,congrArg (fun z:Nat=>Ending.returned (.tuple #[v',.int .u32 (z:Int),.bool true])) eN.o,ho.mono an.size,an.trans hx⟩
  ·obtain⟨m,rfl⟩:∃m,k=m+1:=⟨k-1,by omega⟩;obtain⟨b,o,rfl,hb,ac⟩:=HC.o (by omega);have hx:=(an.cell hb).trans (ac m (by omega));have ai:=HB.o.cell m;have hfz:=HB.o.frozen m;rw[CK _ _ (by simp;omega)]at ai;clear ac;have fo:=av.get m;have HS:=J (Rj xs qs m d r (by omega) HV.o);have hq:=Tg hr fo;have tL:=Nat.mod_lt (r*4294967296+xs.getD m 0) o9;obtain⟨x,hxe⟩:∃x,xs.getD m 0=x:=⟨_,rfl⟩;rw[hxe]at hx fo HS hq tL;clear hxe;have lx:=N0 r x (by omega) fo;have Zf:r*4294967296+x<18446744073709551616:=by omega
   obtain⟨N,WD⟩:∃N,r*4294967296+x=N:=⟨_,rfl⟩;rw[WD]at lx HS hq tL Zf;clear WD;have zO:(N:Int) / (d:Int)=((N / d:Nat):Int):=(Int.natCast_ediv N d).symm;have gx:(N:Int) % (d:Int)=((N % d:Nat):Int):=(Int.natCast_emod N d).symm;obtain⟨y,hy⟩:∃y,N / d=y:=⟨_,rfl⟩;obtain⟨z,hz⟩:∃z,N % d=z:=⟨_,rfl⟩;rw[hy]at zO HS hq;rw[hz]at gx HS tL;clear hy hz;have tt:=J (show (y:Int) % 4294967296=(y:Int) by omega);simp only[d32]at hx ai
   go_wp2
   go_round
   case rel=>
    refine⟨m,z,by omega,tL,rfl,by rw[gx],?_⟩;exact Pi.step HL.o dq hq HS.o HB.o an
   case measure=>simp[intOf]
end Big
end Go.Proofs.YtkoaogkknnelaaaGreatDoor
