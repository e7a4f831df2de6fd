import Derived.Test.YtkoaogkknnelaaaGreatDoorM8
set_option linter.unusedVariables false
set_option linter.unusedSimpArgs false
set_option maxRecDepth 100000
namespace Go.Proofs.YtkoaogkknnelaaaGreatDoor
namespace Big
open Lib renaming hid → J
open Go.RowKit
@[go_sem high] theorem Rc (l:List UInt8):Value.cells.match_1 (fun _=>Array Value) (str l) (fun cs=>cs) (fun v=> #[v])= #[str l]:=rfl
theorem AS(w:World)(ty:TypeId)(cs:List Value):∀(j:Nat) (u:Value),cs[j]? =some u->(w.alloc (.cells cs.toArray ty)).cell? ((⟨w.heap.size,0,none⟩:Addr).add j)=some u:=fun j u hj=>by
 have h1:=(Blk.new w ty cs.toArray).cell j;have h2:(⟨w.heap.size,0,none⟩:Addr).add j=⟨w.heap.size,j,none⟩:=by
  unfold Addr.add;split
  ·rename_i h;subst h;rfl
  ·simp
 rw[h2,h1,<-hj,qbL]
theorem DI {B n:Nat} {W W':World} {xs:List Nd} {nd:Nd} {v v':Value} (hn:n=xs.length) (ho:Obj) (au:Ai B W v xs) (hB:B<=W.heap.size)
  (ac:W'.ownsRow B 95 5 v' (n+1) (AN xs++ndC nd)) (hgr:(W.alloc ho).grownBy W' v.ownBlock):Ai B W' v' (xs++[nd])/\Below B W W':=by
 refine⟨?_,?_⟩
 ·unfold Ai;rw[Bl,Bw,qab,qae,<-hn];exact ac
 ·exact Below.grown ((Below.refl B W).alloc hB ho) hgr (by simp;omega) (fun k hk=>Ay au k hk)
theorem Ai.kbx{B g:Nat}{w w':World}{v:Value}{l:List Nd}(h:Ai B w v l)(hg:g<B)(hk:∀B',KB B' g w w'):Ai B w' v l:=
 h.kept (fun k h1 h2=>(hk w.heap.size).block k h2 (by omega))
theorem Ai.kbs{B g:Nat}{w w':World}{v:Value}{l:List Nd}(h:Ai B w v l)(hg:g<B)(hk:KB w.heap.size g w w'):Ai B w' v l:=
 h.kept (fun k h1 h2=>hk.block k h2 (by omega))
theorem Ai.ext{B:Nat}{w w':World}{v:Value}{l:List Nd}(h:Ai B w v l)(hk:Ext w w'):Ai B w' v l:=
 h.kept (fun k _h1 h2=>hk.block k h2)
theorem Qw{x:Int}(h0:0<=x)(h1:x<5):∃t,∃h:x.toNat<DA.length,DA[x.toNat]=t/\CQ t=true/\t.length<=5:=by
 obtain⟨n,rfl⟩:=qcv h0;have hn:n<DA.length:=by show n<5;omega
 refine⟨DA[n],hn,rfl,?_⟩;have hall:∀t∈DA,CQ t=true/\t.length<=5:=by decide+kernel
 exact hall _ (qap hn)
theorem Dr.belowN{w w':World}(h:Dr w w')(B:Nat):Below B w w':=by
 have h1:=h.grown none;exact⟨h1.os,h1.tape,h1.output,h1.size,fun g _=>by rw[h.heap]⟩
theorem Ai.shape3{B:Nat}{w:World}{v:Value}{l:List Nd}(h:Ai B w v l):∃A c n,v= .slice A n c/\n=l.length:=by
 obtain⟨A,c,h1⟩:=h.shape;exact⟨A,c,_,h1,rfl⟩
theorem Jh{d:Nat}(h:1<=d):2<=2 ^ d:=by
 calc 2=2 ^ 1:=rfl
  _<=2 ^ d:=qbw (by omega) h
theorem EQ(w:World)(k:Nat)(a b n:Int)(t:List UInt8)(h1:1<=k)(h2:k<=16):Calls Tryz.prog 166 #[.agg #[.int .i64 (k:Int),.int .i64 a,.int .i64 b,.int .i64 n,str t]] w fun e w'=>e= .returned (.int .i64 (Aw k:Int))/\Ext w w':=by
 obtain⟨s,hs⟩:∃s:ByteArray,s=⟨t.toArray⟩:=⟨_,rfl⟩;have af:str t= .string s:=by rw[hs];rfl
 rw[af];clear af hs;have az:=J (fun W=>Bf W (k:Int));have ay:0<=Al (k:Int):=by
  unfold Al
  repeat' split
  all_goals omega
 generalize Al (k:Int)=o at *;have key:(k=6\/k=7)\/(k=8\/k=9)\/k=5\/k=10\/(k≠6/\k≠7/\k≠8/\k≠9/\k≠5/\k≠10):=by omega
 have av:=Blk.new w 95 #[.int .i64 (k:Int),.int .i64 a,.int .i64 b,.int .i64 n,.string s];have hc:=av.cell 0;have HX:=J ((Ext.refl w).alloc (.cells #[.int .i64 (k:Int),.int .i64 a,.int .i64 b,.int .i64 n,.string s] 95));have hc0:(w.alloc (.cells #[.int .i64 (k:Int),.int .i64 a,.int .i64 b,.int .i64 n,.string s] 95)).cell? ⟨w.heap.size,0,none⟩=some (.int .i64 (k:Int)):=hc;clear av hc;rcases key with hk|hk|hk|hk|⟨n1,n2,n3,n4,n5,n6⟩
 ·have HL:Hid (Aw k=1):=J (by unfold Aw;rw[if_pos hk]);rcases hk with rfl|rfl
  all_goals
   go_enter Tryz.func166,Tryz.ntmps166;go_wp2_with fail;refine(az.o _).mono ?_
   rintro e w1 ⟨rfl,rfl⟩;go_wp2_with fail;go_ret;exact⟨by rw[HL.o];rfl,HX.o⟩
 ·have HL:Hid (Aw k=2):=J (by unfold Aw;rw[if_neg (by omega),if_pos hk]);rcases hk with rfl|rfl
  all_goals
   go_enter Tryz.func166,Tryz.ntmps166;go_wp2_with fail;refine(az.o _).mono ?_
   rintro e w1 ⟨rfl,rfl⟩;go_wp2_with fail;go_ret;exact⟨by rw[HL.o];rfl,HX.o⟩
 ·subst hk;go_enter Tryz.func166,Tryz.ntmps166;go_wp2_with fail;refine(az.o _).mono ?_
  rintro e w1 ⟨rfl,rfl⟩;go_wp2_with fail;go_ret;exact⟨rfl,HX.o⟩
 ·subst hk;go_enter Tryz.func166,Tryz.ntmps166;go_wp2_with fail;refine(az.o _).mono ?_
  rintro e w1 ⟨rfl,rfl⟩;go_wp2_with fail;go_ret;exact⟨rfl,HX.o⟩
 ·have HL:Hid (Aw k=5):=J (by unfold Aw;rw[if_neg (by omega),if_neg (by omega),if_neg (by omega),if_neg (by omega)]);have e1:((k:Int) == 6)=false:=by rw[beq_eq_false_iff_ne];omega
  have e2:((k:Int) == 7)=false:=by rw[beq_eq_false_iff_ne];omega
  have e3:((k:Int) == 8)=false:=by rw[beq_eq_false_iff_ne];omega
  have e4:((k:Int) == 9)=false:=by rw[beq_eq_false_iff_ne];omega
  have e5:((k:Int) == 5)=false:=by rw[beq_eq_false_iff_ne];omega
  have e6:((k:Int) == 10)=false:=by rw[beq_eq_false_iff_ne];omega
  clear n1 n2 n3 n4 n5 n6;go_enter Tryz.func166,Tryz.ntmps166;go_wp2_with fail;refine(az.o _).mono ?_
  rintro e w1 ⟨rfl,rfl⟩;go_wp2_with fail;go_ret;exact⟨by rw[HL.o];rfl,HX.o⟩
def PE(w0 wr:World)(xs:List Nat)(d k r:Nat):Prop:=
 ∃qs:List Nat,k+qs.length=xs.length/\Ok qs/\val qs*d+r=val (xs.drop k)/\
  Blk wr w0.heap.size 183 (cells (List.replicate k 0++qs))/\Ext w0 wr
theorem PE.step {w0 wr:World} {xs qs:List Nat} {d k r y:Nat} (hl:k+1+qs.length=xs.length) (an:Ok qs) (hy:y<4294967296)
  (hv:val (y::qs)*d+r=val (xs.drop k))
  (hb:Blk wr w0.heap.size 183 (cells (List.replicate (k+1) 0++qs))) (he:Ext w0 wr):
  PE w0 (wr.setCell ⟨w0.heap.size,k,none⟩ (d32 y)) xs d k r:=by
 refine⟨y::qs,by simp;omega,DE hy an,hv,?_,he.setCell (qad _) _⟩;have h1:=hb.set_ k (d32 y);rw[CI,I6]at h1;exact h1
theorem N4(w:World)(v:Value)(xs:List Nat)(d:Nat)(h:Arr w v xs)(hn:xs.length<=536870912)(mQ:0<d)(hd:d<4294967296):
  Calls Tryz.prog 291 #[v,.int .u32 (d:Int)] w fun e w'=>∃v',e= .returned (.tuple #[v',.int .u32 ((val xs % d:Nat):Int),.bool true])/\Own w.heap.size w' v' (Af (val xs / d))/\Ext w w':=by
 have HA:=J h;obtain⟨an,A,cap,rfl,eA,gY,aa⟩:=h.open;have HM:=J gY;have HC:=J aa;have dF:=Ef xs.length (by omega);have ni:=J dF;clear h aa gY eA;have uZ:((d:Int) == 0)=false:=by rw[beq_eq_false_iff_ne];omega
 go_enter Tryz.func291,Tryz.ntmps291;go_wp2_with fail;clear dF;go_loopw [8,9] (fun rv i wr=>∃k r:Nat,k<=xs.length/\r<d/\i= .int .i64 ((k:Int)-1)/\rv= .int .u64 r/\PE w wr xs d k r) (fun _ i _=>(intOf i+1).toNat)
 case atStart=>exact⟨xs.length,0,qad _,mQ,rfl,rfl,[],rfl,CT,by simp[val],by simpa [Fy] using Blk.new w 183 (zeros xs.length),(Ext.refl w).alloc _⟩
 case round=>
  obtain⟨k,r,hk,hr,rfl,rfl,qs,hl,dE,hv,ax,ai⟩:=hrel;have HV:=J hv;clear hv;have HB:=J ax;clear ax;have HL:=J hl;clear hl;rcases qar k with h0|h0
  ·subst h0;obtain⟨jr,qt⟩:=Lt hr (by simpa using HV.o);have ak:qs.length=xs.length:=by simpa using HL.o
   have bP:Own w.heap.size wr (.slice (some ⟨w.heap.size,0,none⟩) xs.length xs.length) qs:=by
    have h3:=Own.block (B:=w.heap.size) dE (by simpa using HB.o) (qad _) (by omega)
    rwa [ak]at h3
   have HT:=J (B4 _ _ _ bP.arr (by omega));rw[jr]at HT;have uT:(r:Int) % 4294967296=((val xs % d:Nat):Int):=by omega
   have HR:=J uT;have eO:=J qt;clear uT jr qt bP ak;go_wp2_with fail;refine HT.o.mono ?_
   rintro e w' ⟨v',rfl,ho,hx⟩;go_wp2_with fail;go_ret3;first
    |exact⟨_,congrArg (fun z:Int=>Ending.returned (.tuple #[v',.int .u32 z,.bool true])) HR.o,ho.mono ai.size,ai.trans hx⟩
    |exact⟨_,congrArg (fun z:Nat=>Ending.returned (.tuple #[v',.int .u32 (z:Int),.bool true])) eO.o,ho.mono ai.size,ai.trans hx⟩
  ·obtain⟨m,rfl⟩:∃m,k=m+1:=⟨k-1,by omega⟩;obtain⟨b,o,rfl,hb,aa⟩:=HC.o (by omega);have hx:=(ai.cell hb).trans (aa m (by omega));have af:=HB.o.cell m;have hfz:=HB.o.frozen m;rw[CK _ _ (by simp;omega)]at af;clear aa;have fp:=an.get m;have HS:=J (RZ xs qs m d r (by omega) HV.o);have hq:=TV hr fp;have uS:=qbl (r*4294967296+xs.getD m 0) mQ;obtain⟨x,hxe⟩:∃x,xs.getD m 0=x:=⟨_,rfl⟩;rw[hxe]at hx fp HS hq uS;clear hxe;have lV:=Of r x (by omega) fp;have hNb:r*4294967296+x<18446744073709551616:=by omega
   obtain⟨N,Ym⟩:∃N,r*4294967296+x=N:=⟨_,rfl⟩;rw[Ym]at lV HS hq uS hNb;clear Ym;have VD:(N:Int) / (d:Int)=((N / d:Nat):Int):=(Int.natCast_ediv N d).symm;have gE:(N:Int) % (d:Int)=((N % d:Nat):Int):=(Int.natCast_emod N d).symm;obtain⟨y,hy⟩:∃y,N / d=y:=⟨_,rfl⟩;obtain⟨z,hz⟩:∃z,N % d=z:=⟨_,rfl⟩;rw[hy]at VD HS hq;rw[hz]at gE HS uS;clear hy hz;have yR:=J (show (y:Int) % 4294967296=(y:Int) by omega);simp only[d32]at hx af
   go_wp2
   go_round
   case rel=>
    refine⟨m,z,by omega,uS,rfl,by rw[gE],?_⟩;exact PE.step HL.o dE hq HS.o HB.o ai
   case measure=>simp[intOf]
end Big
end Go.Proofs.YtkoaogkknnelaaaGreatDoor
