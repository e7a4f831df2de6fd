import Derived.Test.YtkoaogkknnelaaaGreatDoorM6
import Derived.Test.YtkoaogkknnelaaaGreatDoorM2
import Derived.Deep.CutBlock
set_option linter.unusedVariables false
set_option linter.unusedSimpArgs false
set_option maxHeartbeats 1000000
set_option maxRecDepth 100000
namespace Go.Proofs.YtkoaogkknnelaaaGreatDoor
namespace Big
open Lib renaming hid → J
open Go.RowKit
theorem Hg(a b:Nat)(ha:a<4294967296)(hb:b<4294967296):bits .and .u32 (a:Int) (b:Int)=((a &&& b:Nat):Int):=by
 have hx:a &&& b<2 ^ 32:=Nat.and_lt_two_pow _ (by omega);have h1:(BitVec.ofInt 32 (a:Int)).toNat=a:=by
  rw[BitVec.ofInt_natCast,BitVec.toNat_ofNat];exact qbA (by omega)
 have h2:(BitVec.ofInt 32 (b:Int)).toNat=b:=by
  rw[BitVec.ofInt_natCast,BitVec.toNat_ofNat];exact qbA (by omega)
 show IntKind.u32.wrap ((BitVec.ofInt 32 (a:Int) &&& BitVec.ofInt 32 (b:Int)).toNat:Int)=_;rw[BitVec.toNat_and,h1,h2,IntKind.wrap_u32];omega
theorem IN(a b:Nat)(ha:a<4294967296)(hb:b<4294967296):bits .or .u32 (a:Int) (b:Int)=((a ||| b:Nat):Int):=by
 have hx:a ||| b<2 ^ 32:=Nat.or_lt_two_pow (by omega) (by omega)
 have h1:(BitVec.ofInt 32 (a:Int)).toNat=a:=by
  rw[BitVec.ofInt_natCast,BitVec.toNat_ofNat];exact qbA (by omega)
 have h2:(BitVec.ofInt 32 (b:Int)).toNat=b:=by
  rw[BitVec.ofInt_natCast,BitVec.toNat_ofNat];exact qbA (by omega)
 show IntKind.u32.wrap ((BitVec.ofInt 32 (a:Int) ||| BitVec.ofInt 32 (b:Int)).toNat:Int)=_;rw[BitVec.toNat_or,h1,h2,IntKind.wrap_u32];omega
theorem Fh(a b:Nat)(ha:a<4294967296)(hb:b<4294967296):bits .xor .u32 (a:Int) (b:Int)=((a ^^^ b:Nat):Int):=by
 have hx:a ^^^ b<2 ^ 32:=Nat.xor_lt_two_pow (by omega) (by omega);have h1:(BitVec.ofInt 32 (a:Int)).toNat=a:=by
  rw[BitVec.ofInt_natCast,BitVec.toNat_ofNat];exact qbA (by omega)
 have h2:(BitVec.ofInt 32 (b:Int)).toNat=b:=by
  rw[BitVec.ofInt_natCast,BitVec.toNat_ofNat];exact qbA (by omega)
 show IntKind.u32.wrap ((BitVec.ofInt 32 (a:Int) ^^^ BitVec.ofInt 32 (b:Int)).toNat:Int)=_;rw[BitVec.toNat_xor,h1,h2,IntKind.wrap_u32];omega
theorem Tf{n:Nat}(h:n<4294967296):n / 2147483648=(n.testBit 31).toNat:=by
 rw[Nat.testBit_eq_decide_div_mod_eq,show (2:Nat) ^ 31=2147483648 from rfl];have:n / 2147483648<2:=by omega
 rcases qah (n / 2147483648) 1 with h1|h1
 ·have:n / 2147483648=0:=by omega
  rw[this];rfl
 ·have:n / 2147483648=1:=by omega
  rw[this];rfl
theorem Lb{n:Nat}(h:n<4294967296):n.testBit 31=decide (2147483648<=n):=by
 rw[Nat.testBit_eq_decide_div_mod_eq,show (2:Nat) ^ 31=2147483648 from rfl];rw[decide_eq_decide];omega
theorem SP{x y b d b':Nat}(hx:x<4294967296)(hy:y<4294967296)(hb:b<=1)(hd:d<4294967296)(io:b'<=1)(h:x+4294967296*b'=d+y+b):
  bits .or .u32 (bits .and .u32 (bits .xor .u32 IntKind.u32.max (x:Int)) (y:Int)) (bits .and .u32 (bits .xor .u32 IntKind.u32.max (bits .xor .u32 (x:Int) (y:Int))) (((x:Int)-(y:Int)-(b:Int)) % 4294967296)) / 2147483648=((b':Nat):Int):=by
 have e1:((x:Int)-(y:Int)-(b:Int)) % 4294967296=((d:Nat):Int):=by omega
 have e2:IntKind.u32.max=((4294967295:Nat):Int):=by rfl
 have l1:x ^^^ y<4294967296:=Nat.xor_lt_two_pow (n:=32) hx hy;have l2:4294967295 ^^^ x<4294967296:=Nat.xor_lt_two_pow (n:=32) (by decide) hx;have l3:4294967295 ^^^ (x ^^^ y)<4294967296:=Nat.xor_lt_two_pow (n:=32) (by decide) l1;have l4:(4294967295 ^^^ x) &&& y<4294967296:=Nat.and_lt_two_pow (n:=32) _ hy;have l5:(4294967295 ^^^ (x ^^^ y)) &&& d<4294967296:=Nat.and_lt_two_pow (n:=32) _ hd;have l6:(4294967295 ^^^ x) &&& y ||| (4294967295 ^^^ (x ^^^ y)) &&& d<4294967296:=Nat.or_lt_two_pow (n:=32) l4 l5
 rw[e1,e2,Fh _ _ (by decide) hx,Fh _ _ hx hy,Fh _ _ (by decide) l1,Hg _ _ l2 hy,Hg _ _ l3 hd,IN _ _ l4 l5];have key:((4294967295 ^^^ x) &&& y ||| (4294967295 ^^^ (x ^^^ y)) &&& d) / 2147483648=b':=by
  rw[Tf l6,Nat.testBit_or,Nat.testBit_and,Nat.testBit_and,Nat.testBit_xor,Nat.testBit_xor,Nat.testBit_xor,Lb hx,Lb hy,Lb hd,Lb (show 4294967295<4294967296 by decide)];by_cases hX:2147483648<=x<;>by_cases hY:2147483648<=y<;>by_cases hD:2147483648<=d<;>simp[hX,hY,hD]<;>omega
 omega
theorem Q2(w:World)(x y c:Nat)(hx:x<4294967296)(hy:y<4294967296)(hc:c<=1):
  Calls Tryz.prog 305 #[.int .u32 (x:Int),.int .u32 (y:Int),.int .u32 (c:Int)] w fun e w'=>e= .returned (.tuple #[.int .u32 (((x+y+c) % 4294967296:Nat):Int),.int .u32 (((x+y+c) / 4294967296:Nat):Int)])/\w=w':=by
 go_enter Tryz.func305,Tryz.ntmps305;go_wp2_with fail;go_ret2;exact⟨rfl,rfl⟩
theorem Jy(w:World)(n:Nat)(hn:n<=1048576):
  Calls Tryz.prog 303 #[.int .i64 (n:Int)] w fun e w'=>e= .returned (.int .i64 (n:Int))/\w=w':=by
 go_enter Tryz.func303,Tryz.ntmps303;go_wp2_with fail;go_ret;exact⟨rfl,rfl⟩
theorem FR(w:World)(x y b:Nat)(hx:x<4294967296)(hy:y<4294967296)(hb:b<=1):
  Calls Tryz.prog 304 #[.int .u32 (x:Int),.int .u32 (y:Int),.int .u32 (b:Int)] w fun e w'=>∃d b':Nat,e= .returned (.tuple #[.int .u32 (d:Int),.int .u32 (b':Int)])/\d<4294967296/\b'<=1/\x+4294967296*b'=d+y+b/\w=w':=by
 obtain⟨d,b',hd,io,h⟩:∃d b':Nat,d<4294967296/\b'<=1/\x+4294967296*b'=d+y+b:=by
  by_cases h:x<y+b
  ·exact⟨x+4294967296-(y+b),1,by omega,by omega,by omega⟩
  ·exact⟨x-(y+b),0,by omega,by omega,by omega⟩
 have H:=J h;have hq:=SP hx hy hb hd io h;have e1:((x:Int)-(y:Int)-(b:Int)) % 4294967296=((d:Nat):Int):=by omega
 have E:=J e1;have E2:Hid (((((x:Int)-(y:Int)) % 4294967296)-(b:Int)) % 4294967296=((d:Nat):Int)):=J (by omega);have Q:=J hq;have hu:(IntKind.u32.signed=true)=False:=by simp[IntKind.signed]
 clear h hq e1;go_enter Tryz.func304,Tryz.ntmps304;go_wp2_with fail;go_ret2;rw[E.o]at Q;refine⟨d,b',?_,hd,io,H.o,rfl⟩;simp only[E.o,E2.o,Q.o];rfl
def Nf(w0 wr:World)(xs:List Nat)(d s L k:Nat)(zs:List Nat)(c:Nat):Prop:=
 zs.length=k/\Ok zs/\c<2 ^ s/\val zs+4294967296 ^ k*c=val (xs.take k)*2 ^ s/\
  Blk wr w0.heap.size 183 (cells (List.replicate d 0++(zs++c::List.replicate (L-k) 0)))/\Ext w0 wr
theorem Nf.step{w0 wr:World}{xs zs:List Nat}{d s L k c y:Nat}(h:Nf w0 wr xs d s L k zs c)(hk:k<L)(hs:s<=31)(aA:Ok xs)(hy:y=xs.getD k 0*2 ^ s):
  Nf w0 ((wr.setCell ⟨w0.heap.size,k+d,none⟩ (d32 (c+y % 4294967296))).setCell ⟨w0.heap.size,k+d+1,none⟩ (d32 (y / 4294967296))) xs d s L (k+1) (zs++[c+y % 4294967296]) (y / 4294967296):=by
 obtain⟨hl,jl,hc,hv,hb,he⟩:=h;obtain⟨p1,p2,p3⟩:=Hu (aA.get k) hs;rw[<-hy]at p1 p2 p3;have bK:=L7 hs hc p3 (qba _ (by omega));refine⟨by simp[hl],jl.snoc bK,p1,Rr hl hv hy,?_,(he.setCell (qab _) _).setCell (qab _) _⟩;have h1:=(hb.set_ (k+d) (d32 (c+y % 4294967296))).set_ (k+d+1) (d32 (y / 4294967296));rw[BE,BE]at h1;have e1:(List.replicate d 0++(zs++c::List.replicate (L-k) 0)).set (k+d) (c+y % 4294967296)=List.replicate d 0++(zs++(c+y % 4294967296)::List.replicate (L-k) 0):=by
  rw[qbq _ _ (by simp),qaX,show k+d-d=zs.length by omega,qbq _ _ (qab _),qaR,qce]
 have e2:(List.replicate d 0++(zs++(c+y % 4294967296)::List.replicate (L-k) 0)).set (k+d+1) (y / 4294967296)=List.replicate d 0++(zs++[c+y % 4294967296]++(y / 4294967296)::List.replicate (L-(k+1)) 0):=by
  rw[qbq _ _ (by simp;omega),qaX,show k+d+1-d=zs.length+1 by omega,qbq _ _ (by omega),qbu,List.set_cons_succ,show L-k=(L-(k+1))+1 by omega,qbI,qce,qao];rfl
 rwa [e1,e2]at h1
theorem Tk{d k c L:Nat}{zs:List Nat}(hl:zs.length=k):(List.replicate d 0++(zs++c::List.replicate (L-k) 0)).getD (k+d) 0=c:=by
 rw[qaa,qai (by simp),qaX,show k+d-d=zs.length by omega,qai (qab _),qaR];rfl
theorem Pw(L d:Nat):zeros (L+d+1)=cells (List.replicate d 0++([]++0::List.replicate (L-0) 0)):=by
 rw[En,qaU,Nat.sub_zero,<-qbI,List.replicate_append_replicate,show d+(L+1)=L+d+1 by omega]
theorem Lg(w:World)(v:Value)(xs:List Nat)(n:Nat)(h:Arr w v xs)(hl:xs.length<=268435456)(hn:n<=1048576):
  Calls Tryz.prog 293 #[v,.int .i64 (n:Int)] w fun e w'=>∃v',e= .returned v'/\Own w.heap.size w' v' (Ac (val xs*2 ^ n))/\Ext w w':=by
 have HS:=J (CJ w v xs h);have cH:=CG xs;have HA:=J h;have HT:=J (Cf h.ok);have HP:=J (Jy w n hn);obtain⟨aA,A,cap,rfl,dL,eA,aa⟩:=h.open;have HC:=J aa;have HM:=J eA;obtain⟨d,s,hd,hs,hnd⟩:∃d s,d<=32768/\s<=31/\n=32*d+s:=⟨n / 32,n % 32,by omega,by omega,by omega⟩;have dl:=J hnd;have hq:(n:Int) / 32=(d:Int):=by omega
 have hr:(n:Int) % 32=(s:Int):=by omega
 clear h aa eA hnd;rcases qag (size xs) with h0|h0
 ·have hz:=Ht h0;rw[hz,qcy];rw[h0]at HS;clear hz h0 cH hq hr;go_enter Tryz.func293,Tryz.ntmps293;go_wp2_with fail;refine HP.o.mono ?_
  rintro e w' ⟨rfl,rfl⟩;go_wp2_with fail;refine HS.o.mono ?_
  rintro e w' ⟨rfl,rfl⟩;go_wp2_with fail;go_ret;exact⟨_,rfl,Own.none_ _ _,Ext.refl _⟩
 ·have HV:Hid (val (xs.take (size xs))=val xs):=J (by rw[HT.o,Ad]);generalize size xs=L at *;have hL0:((L:Int) == 0)=false:=by rw[beq_eq_false_iff_ne];omega
  have dp:=Cn (L+d+1) (by omega);simp only[qcd,Int.natCast_one]at dp;have pa:=J (GJ s hs);go_enter Tryz.func293,Tryz.ntmps293;go_wp2_with fail;refine HP.o.mono ?_
  rintro e w' ⟨rfl,rfl⟩;go_wp2_with fail;refine HS.o.mono ?_
  rintro e w' ⟨rfl,rfl⟩;go_wp2_with fail;clear dp;go_loopw [33] (fun i wr=>∃(k:Nat) (zs:List Nat) (c:Nat),k<=L/\i= .int .i64 k/\Nf w wr xs d s L k zs c) (fun i _=>L-(intOf i).toNat)
  case atStart=>exact⟨0,[],0,qaj _,rfl,rfl,Cq,qbb (by omega),by simp[val],by rw[<-Pw];exact Blk.new _ _ _,(Ext.refl w).alloc _⟩
  case round=>
   obtain⟨k,zs,c,hk,rfl,hat⟩:=hrel;by_cases hlt:k<L
   ·obtain⟨b,o,rfl,hb,aa⟩:=HC.o (by omega);have dk:=J (fun y h=>Nf.step (y:=y) hat hlt hs aA h);obtain⟨fz,jl,hc,hv,bW,ae⟩:=hat;have hx:=(ae.cell hb).trans (aa k (by omega));clear aa;have hst:=bW.cell (k+d);have rZ:=bW.cell (k+d+1);have hfz:=bW.frozen (k+d);have hfz2:=bW.frozen (k+d+1);rw[Bi _ _ (by simp;omega),Tk fz]at hst;rw[Bi _ _ (by simp;omega)]at rZ;obtain⟨fX,fi,mK⟩:=Hu (aA.get k) hs;have iF:=Rs hc mK;have bK:=L7 hs hc mK (qba _ (by omega));have cW:=aA.get k;have og:=pa.o;generalize (List.replicate d 0++(zs++c::List.replicate (L-k) 0)).getD (k+d+1) 0=z at rZ;clear bW hv jl fz mK;have HX:=J ae;clear ae;obtain⟨x,bS⟩:∃x,xs.getD k 0=x:=⟨_,rfl⟩;rw[bS]at hx cW dk fX fi iF bK;clear bS;have oO:(2:Int) ^ s=((2 ^ s:Nat):Int):=by simp
    obtain⟨P,hP⟩:∃P,2 ^ s=P:=⟨_,rfl⟩;rw[hP]at oO fX fi iF bK hc og dk;clear hP;have kf:(x:Int)*(P:Int)=((x*P:Nat):Int):=by simp
    have bF:=J (dk.o _ rfl);obtain⟨y,hy⟩:∃y,x*P=y:=⟨_,rfl⟩;rw[hy]at kf fX fi iF bK bF;clear hy dk;have q9:bits .or .u32 (c:Int) ((y:Int) % 4294967296)=((c+y % 4294967296:Nat):Int):=by
     rw[show (y:Int) % 4294967296=((y % 4294967296:Nat):Int) by omega,IN _ _ (by omega) (by omega),iF]
    clear iF;simp only[d32]at hx hst rZ;go_wp2_with fail;go_roundw
    case rel=>exact⟨k+1,_,_,by omega,by go_num,bF.o⟩
    case measure=>simp[intOf];omega
   ·obtain rfl:k=L:=by omega
    obtain⟨fz,jl,hc,hv,bW,ae⟩:=hat;rw[qaR,qcm]at bW;have og:=pa.o;have VK:c<4294967296:=by omega
    have hall:Ok (List.replicate d 0++(zs++[c])):=(Ok.zeros d).append (jl.snoc VK);have aH:(List.replicate d 0++(zs++[c])).length=k+d+1:=by simp;omega
    have aB:Own w.heap.size wr (.slice (some ⟨w.heap.size,0,none⟩) (k+d+1) (k+d+1)) (List.replicate d 0++(zs++[c])):=by
     have h3:=Own.block (B:=w.heap.size) hall bW (qab _) (by rw[aH];omega)
     rwa [aH]at h3
    have hval:val (List.replicate d 0++(zs++[c]))=val xs*2 ^ n:=by
     rw[dl.o];refine OO d s _ _ ?_
     rw[BS,fz,hv,HV.o]
    have ir:=J (CJ _ _ _ aB.arr);have cA:=CG (List.replicate d 0++(zs++[c]));obtain⟨A1,c1,gD,HO⟩:=aB.take (size (List.replicate d 0++(zs++[c]))) cA;rw[Cf aB.ok,hval]at HO;rw[aH]at cA;injection gD with gD hv3 hv2
    clear hv3;subst gD;subst hv2;have HO:=J HO;generalize size (List.replicate d 0++(zs++[c]))=sz at *;clear hval aB aH hall bW hv hc fz;go_wp2_with fail;refine ir.o.mono ?_
    rintro e w' ⟨rfl,rfl⟩;go_wp2_with fail;go_ret;exact⟨_,rfl,HO.o,ae⟩
theorem Dv(xs:List Nat)(RX:Array Value)(i:Nat)(h:i<xs.length):(cells xs++RX)[i]? =some (d32 (xs.getD i 0)):=by
 rw[Array.getElem?_append_left (by rw[Jg];exact h),Bi xs i h]
theorem E0(xs:List Nat)(RX:Array Value)(i y:Nat)(h:i<xs.length):(cells xs++RX).setIfInBounds i (d32 y)=cells (xs.set i y)++RX:=by
 rw[<-BE];apply qck;simp only[Array.toList_setIfInBounds,Array.toList_append];rw[List.set_append_left _ _ (by simpa [cells] using h)]
theorem Arr.kept{w w':World}{g:Nat}{v:Value}{ys:List Nat}(h:Arr w v ys)(hg:w.grownBy w' (some g))(hne:∀b o n c,v= .slice (some ⟨b,o,none⟩) n c->b≠g):Arr w' v ys:=by
 obtain⟨aA,A,c,rfl,hc,hm,aa⟩:=h.open;refine Arr.mk aA hc hm fun hp=> ?_
 obtain⟨b,o,rfl,hb,h1⟩:=aa hp;refine⟨b,o,rfl,qan hb hg.size,fun j hj=> ?_⟩;have h2:=hg.block b hb (by simpa using hne b o _ _ rfl);rw[<-h1 j hj];simp[World.cell?,h2]
structure Dr (w w':World):Prop where
 heap:w'.heap=w.heap
 grown:∀g,w.grownBy w' g
theorem Dr.refl(w:World):Dr w w:=⟨rfl,fun _=>⟨rfl,rfl,rfl,qab _,fun _ _ _=>rfl⟩⟩
theorem Dr.drewN{w w':World}(h:Dr w w')(n:Nat):Dr w (w'.drewN n):=⟨h.heap,fun g=>⟨(h.grown g).os,(h.grown g).tape,(h.grown g).output,(h.grown g).size,(h.grown g).block⟩⟩
theorem Dr.cell{w w':World}(h:Dr w w')(p:Addr):w'.cell? p=w.cell? p:=by
 have:=h.heap;simp[World.cell?,this]
theorem Dr.blk{w w':World}{g:Nat}{t:TypeId}{cs:Array Value}(h:Dr w w')(hb:Blk w g t cs):Blk w' g t cs:=by
 unfold Blk;rw[h.heap];exact hb
def Ka(RX:Array Value)(w0 wr:World)(g k n:Nat)(us ys:List Nat)(G i c b:Nat)(zs:List Nat):Prop:=
 zs.length=i/\Ok zs/\c<4294967296/\b<=1/\val zs+G*val (ys.take i)=val ((seg us k n).take i)+4294967296 ^ i*(c+b)/\
  Blk wr g 183 (cells (over us k zs)++RX)/\w0.grownBy wr (some g)
theorem EQ{w0 wr:World}{g:Nat}(h:w0.grownBy wr (some g))(i:Nat)(u:Value):w0.grownBy (wr.setCell ⟨g,i,none⟩ u) (some g):=
 ⟨h.os,h.tape,h.output,by simpa using h.size,fun b hb hne=>by
  rw[<-h.block b hb hne];exact Below.heap_setCell wr ⟨g,i,none⟩ u b (by simpa using hne)⟩
theorem Ka.step {RX:Array Value} {w0 wr:World} {g k n G i c b t d b':Nat} {us ys zs:List Nat} (h:Ka RX w0 wr g k n us ys G i c b zs) (hi:i<n) (hk:k+n+1<=us.length)
  (ht:t=c+G*ys.getD i 0) (zq:t<18446744073709551616) (hd:us.getD (k+i) 0+4294967296*b'=d+t % 4294967296+b) (uH:d<4294967296) (io:b'<=1):
  Ka RX w0 (wr.setCell ⟨g,k+i,none⟩ (d32 d)) g k n us ys G (i+1) (t / 4294967296) b' (zs++[d]):=by
 obtain⟨hl,aA,hc,hb,hv,ax,aC⟩:=h;refine⟨by simp[hl],aA.snoc uH,qbj (by omega),io,Qh hl hv ht (by rw[GE (by omega)];exact hd),?_,EQ aC _ _⟩;have h1:=ax.set_ (k+i) (d32 d);have h2:=GL (us:=us) (zs:=zs) (k:=k) (d:=d) (by omega);rw[hl]at h2;rw[E0 _ _ _ _ (by simp[over];omega),h2]at h1;exact h1
def Kd(RX:Array Value)(w0 wr:World)(g k:Nat)(us xs ys:List Nat)(i a:Nat)(zz:List Nat):Prop:=
 zz.length=i/\Ok zz/\a<=1/\val zz+4294967296 ^ i*a=val (xs.take i)+val (ys.take i)/\Blk wr g 183 (cells (over (over us k xs) k zz)++RX)/\w0.grownBy wr (some g)
theorem Kd.step {RX:Array Value} {w0 wr:World} {g k i a t:Nat} {us xs ys zz:List Nat} (h:Kd RX w0 wr g k us xs ys i a zz) (hi:k+i<us.length) (hk:k+xs.length<=us.length) (zq:t<8589934592)
  (ht:t=xs.getD i 0+ys.getD i 0+a):Kd RX w0 (wr.setCell ⟨g,k+i,none⟩ (d32 (t % 4294967296))) g k us xs ys (i+1) (t / 4294967296) (zz++[t % 4294967296]):=by
 obtain⟨hl,aA,ha,hv,ax,aC⟩:=h;refine⟨by simp[hl],aA.snoc (qba _ (by omega)),by omega,Q0 hl hv (by omega),?_,EQ aC _ _⟩;have h1:=ax.set_ (k+i) (d32 (t % 4294967296));have h2:=GL (us:=over us k xs) (zs:=zz) (k:=k) (d:=t % 4294967296) (by rw[AX hk];omega);rw[hl]at h2;rw[E0 _ _ _ _ (by simp[over];omega),h2]at h1;exact h1
theorem Pq(w:World)(x t b:Nat)(hx:x<4294967296)(hb:b<=1):
  Calls Tryz.prog 304 #[.int .u32 (x:Int),.int .u32 ((t:Int) % 4294967296),.int .u32 (b:Int)] w fun e w'=>∃d b':Nat,e= .returned (.tuple #[.int .u32 (d:Int),.int .u32 (b':Int)])/\d<4294967296/\b'<=1/\x+4294967296*b'=d+t % 4294967296+b/\w=w':=
 FR w x (t % 4294967296) b hx (qba _ (by omega)) hb
theorem QP (RX:Array Value) (w:World) (g k c n:Nat) (us:List Nat) (v:Value) (ys:List Nat) (hb:Blk w g 183 (cells us++RX)) (aA:Ok us) (hn:ys.length=n+2) (hk:k+(n+2)+1<=us.length) (hm:us.length<=1073741824)
  (_hc:n+3<=c) (Wl:c<=maxLen) (hv:Arr w v ys) (hne:∀b o m c,v= .slice (some ⟨b,o,none⟩) m c->b≠g) (vp:1<=ys.getD (n+1) 0) (hlt:val (seg us k (n+2))<val ys*4294967296):
  Calls Tryz.prog 294 #[.slice (some ⟨g,k,none⟩) (n+3:Nat) c,v] w fun e w'=>∃zs,e= .returned (.int .u32 ((val (seg us k (n+2)) / val ys:Nat):Int))/\zs.length=n+3/\Ok zs/\val zs=val (seg us k (n+2)) % val ys/\
   Blk w' g 183 (cells (over us k zs)++RX)/\w.grownBy w' (some g):=by
 have HV:=J hv;obtain⟨gS,A,cap,rfl,dL,eA,oF⟩:=hv.open;obtain⟨b,o,rfl,dR,aa⟩:=oF (by omega);clear oF;have kj:=J (hne b o _ _ rfl);have HC:=J aa;have HB:=J hb;have dU:=hb.cell (k+(n+2));have ej:=hb.cell (k+(n+1));have nw:=hb.cell (k+n);rw[Dv _ _ _ (by omega)]at dU ej nw;have p6:=aa (n+1) (by omega);have hy0:=aa n (by omega);have ve:=aA.get (k+(n+2));have vf:=aA.get (k+(n+1));have rS:=aA.get (k+n);have y7:=gS.get (n+1);have rP:=gS.get n;have gZ:Hid (Knuth.Setup 4294967296 (val (seg us k (n+2))) (val ys) (ys.getD (n+1) 0) (ys.getD n 0) (4294967296 ^ n) (us.getD (k+(n+2)) 0*4294967296+us.getD (k+(n+1)) 0) (us.getD (k+n) 0)):=J (by
  have e1:=Bt ys n;have e2:=Bt (seg us k (n+2)) n;rw[Bl,Bl,qaS (by omega),val]at e1;rw[Bl,Bl,Bl,qaS (by rw[Ji (by omega)];omega),val,GE (by omega),GE (by omega),GE (by omega)]at e2;refine⟨⟨_,BU gS n,?_⟩,⟨_,BU (aA.seg k (n+2)) n,?_⟩,hlt,vp,rP,rS,Fw n⟩
  ·rw[e1,qaJ (4294967296 ^ n),qbM]
   congr 2
   omega
  ·rw[e2,qaJ (4294967296 ^ n),qbM,show k+(n+1+1)=k+(n+2) by omega]
   congr 2
   omega)
 obtain⟨x2,ah⟩:∃x,us.getD (k+(n+2)) 0=x:=⟨_,rfl⟩;obtain⟨x1,ak⟩:∃x,us.getD (k+(n+1)) 0=x:=⟨_,rfl⟩;obtain⟨x0,hx0⟩:∃x,us.getD (k+n) 0=x:=⟨_,rfl⟩;obtain⟨y1,vc⟩:∃x,ys.getD (n+1) 0=x:=⟨_,rfl⟩;obtain⟨y0,vd⟩:∃x,ys.getD n 0=x:=⟨_,rfl⟩;rw[ah]at dU ve gZ;rw[ak]at ej vf gZ;rw[hx0]at nw rS gZ;rw[vc]at p6 y7 gZ vp;rw[vd]at hy0 rP gZ;clear ah ak hx0 vc vd;have iF:=N7 x2 x1 ve vf;have hT:x2*4294967296+x1<18446744073709551616:=by omega
 obtain⟨T,VY⟩:∃T,x2*4294967296+x1=T:=⟨_,rfl⟩;rw[VY]at iF hT gZ;have HTE:=J VY;have yC:=J hn;have dH:=J hlt;unfold maxLen at Wl;rw[hn]at dL ⊢;clear VY hb aa hv hlt hne hn;simp only[d32]at dU ej nw p6 hy0;have aT:IntKind.i64.wrap ((n:Int)+2-1)=(n:Int)+1:=by rw[IntWalk.i64_in _ (by omega)];omega
 have bQ:IntKind.i64.wrap ((n:Int)+2-2)=(n:Int):=by rw[IntWalk.i64_in _ (by omega)];omega
 have xT:((n:Int)+1).toNat=n+1:=by omega
 have ik:((n:Int)+2).toNat=n+2:=by omega
 have h01:(0:Int)<=(n:Int)+1:=by omega
 have h02:(0:Int)<=(n:Int)+2:=by omega
 have WJ:=J gZ.o.q_first;obtain⟨q,hq⟩:∃q,val (seg us k (n+2)) / val ys=q:=⟨_,rfl⟩;have mX:=J (fun G R=>gZ.o.lower (g:=G) (r:=R));have tN:=J (fun G R=>gZ.o.done (g:=G) (r:=R));have nG:=J (fun G R=>gZ.o.broken (g:=G) (r:=R));have kh:=J (fun G=>gZ.o.near (g:=G));rw[hq]at WJ mX kh ⊢;have Zf:=J hq;clear hq;go_enter Tryz.func294,Tryz.ntmps294;go_wp2_with fail;go_quiet (fail);go_wp2_with fail;have Z4:(0:Int)<(y1:Int):=by omega
 obtain⟨Q,hQ⟩:∃Q,T / y1=Q:=⟨_,rfl⟩;obtain⟨R,hR⟩:∃R,T % y1=R:=⟨_,rfl⟩;have hQT:Q<=T:=by rw[<-hQ];exact qbs _ _
 have hRy:R<y1:=by rw[<-hR];exact qba _ (by omega)
 have Ze:Hid (Q*y1+R=T):=J (by rw[<-hQ,<-hR];exact qcj T y1);have hTq:IntKind.u64.wrap ((T:Int) / (y1:Int))=(Q:Int):=by
  rw[<-Int.natCast_ediv,hQ,IntKind.wrap_u64];omega
 have Yt:(T:Int) % (y1:Int)=(R:Int):=by rw[<-Int.natCast_emod,hR]
 have HQ:Hid (q<=Q):=J (by
  rw[<-hQ];exact(Nat.le_div_iff_mul_le (by omega)).2 WJ.o)
 clear hQ hR;go_quiet (fail);have cQ:=J Yt;clear hTq Yt iF
 go_upto_block 0 with fail
 go_cut [7,8] from 47 to 82 (fun s7 s8 wx=>∃G R:Nat,s7= .int .u64 (G:Int)/\s8= .int .u64 (R:Int)/\G<4294967296/\q<=G/\G<=q+1/\Dr w wx)
 case first=>
  go_wp2_with fail;go_loopw [7,8] (fun s7 s8 wr=>∃G R:Nat,s7= .int .u64 (G:Int)/\s8= .int .u64 (R:Int)/\Hid (G*y1+R=T)/\G<=Q/\q<=G/\R<4294967296/\Dr w wr) (fun s7 _ _=>(intOf s7).toNat)
  case atStart=>exact⟨Q,R,rfl,by rw[cQ.o],Ze,qab _,HQ.o,by omega,(Dr.refl _).drewN _ |>.drewN _⟩
  case round=>
   obtain⟨G,R',rfl,rfl,fu,hGQ,xV,hR',nj⟩:=hrel;have hu2':=(nj.cell _).trans dU;have hu1':=(nj.cell _).trans ej;have hu0':=(nj.cell _).trans nw;have Z5:=(nj.cell _).trans p6;have Z6:=(nj.cell _).trans hy0;rcases qah G 4294967296 with hG|hG
   ·have am:(((G:Int) / 4294967296) != 0)=false:=by rw[bne_eq_false_iff_eq];omega
    have hb2:(((G:Int) / 4294967296) == 0)=true:=by rw[beq_iff_eq];omega
    have zI:=N7 R' x0 hR' rS;have sf:=I0 hG rP;have oO:(G:Int)*(y0:Int)=((G*y0:Nat):Int):=by simp
    have ib:=J (fun h=>mX.o G R' fu.o xV (.inr h));have nL:=J (fun h=>kh.o G hG (tN.o G R' fu.o h));have hSm:R'*4294967296+x0<18446744073709551616:=by omega
    obtain⟨P,hP⟩:∃P,G*y0=P:=⟨_,rfl⟩;obtain⟨S,hS⟩:∃S,R'*4294967296+x0=S:=⟨_,rfl⟩;rw[hP]at oO sf ib nL;rw[hS]at zI hSm ib nL;clear hP hS;rcases qah S P with wR|wR
    ·have h1:=ib.o wR;have hd:decide (S<P)=true:=by simpa using wR
     have eH:decide ((S:Int)<(P:Int))=true:=by simpa using wR
     obtain⟨G',td⟩:∃G',G=G'+1:=⟨G-1,by omega⟩;have i5:(G:Int)-1=(G':Int):=by omega
     have Xe:=J td;have ud:Hid (G'*y1+(R'+y1)=T):=J (by
      have:=fu.o;rw[td,qaY,qbo]at this;omega)
     have pj:Hid (G'<=Q):=J (by omega);have xg:Hid (q<=G'):=J (by omega);clear td;rcases qah (R'+y1) 4294967296 with hr|hr
     ·have hc1:(((R':Int)+(y1:Int)) / 4294967296 != 0)=false:=by rw[bne_eq_false_iff_eq];omega
      have df:(((R':Int)+(y1:Int)) / 4294967296 == 0)=true:=by rw[beq_iff_eq];omega
      go_wp2_with fail;go_quiet (fail);go_wp2_with fail;go_roundw
      case rel=>exact⟨G',R'+y1,rfl,by go_num,ud,pj.o,xg.o,hr,nj.drewN _⟩
      case measure=>have:=Xe.o;simp[intOf];omega
     ·have hc1:(((R':Int)+(y1:Int)) / 4294967296 != 0)=true:=by rw[bne_iff_ne];omega
      have df:(((R':Int)+(y1:Int)) / 4294967296 == 0)=false:=by rw[beq_eq_false_iff_ne];omega
      have HE:Hid (G'<4294967296/\G'<=q+1):=J (by
       obtain⟨e1,e2⟩:=nG.o G' (R'+y1) ud.o hr;exact⟨e1,kh.o G' e1 (tN.o G' (R'+y1) ud.o e2)⟩)
      go_wp2_with fail;go_quiet (fail);go_wp2_with fail;go_meet;exact⟨G',R'+y1,rfl,by go_num,HE.o.1,xg.o,HE.o.2,nj.drewN _⟩
    ·have hd:decide (S<P)=false:=by simp;omega
     have eH:decide ((S:Int)<(P:Int))=false:=by simp;omega
     have HE:=J (nL.o wR);go_wp2_with fail;go_quiet (fail);go_wp2_with fail;go_meet;exact⟨G,R',rfl,rfl,hG,xV,HE.o,nj.drewN _⟩
   ·have h1:=mX.o G R' fu.o xV (.inl hG);have am:(((G:Int) / 4294967296) != 0)=true:=by rw[bne_iff_ne];omega
    have hb2:(((G:Int) / 4294967296) == 0)=false:=by rw[beq_eq_false_iff_ne];omega
    obtain⟨G',td⟩:∃G',G=G'+1:=⟨G-1,by omega⟩;have i5:(G:Int)-1=(G':Int):=by omega
    have Xe:=J td;have ud:Hid (G'*y1+(R'+y1)=T):=J (by
     have:=fu.o;rw[td,qaY,qbo]at this;omega)
    have pj:Hid (G'<=Q):=J (by omega);have xg:Hid (q<=G'):=J (by omega);clear td;rcases qah (R'+y1) 4294967296 with hr|hr
    ·have hc1:(((R':Int)+(y1:Int)) / 4294967296 != 0)=false:=by rw[bne_eq_false_iff_eq];omega
     have df:(((R':Int)+(y1:Int)) / 4294967296 == 0)=true:=by rw[beq_iff_eq];omega
     go_wp2_with fail;go_quiet (fail);go_wp2_with fail;go_roundw
     case rel=>exact⟨G',R'+y1,rfl,by go_num,ud,pj.o,xg.o,hr,nj.drewN _⟩
     case measure=>have:=Xe.o;simp[intOf];omega
    ·have hc1:(((R':Int)+(y1:Int)) / 4294967296 != 0)=true:=by rw[bne_iff_ne];omega
     have df:(((R':Int)+(y1:Int)) / 4294967296 == 0)=false:=by rw[beq_eq_false_iff_ne];omega
     have HE:Hid (G'<4294967296/\G'<=q+1):=J (by
      obtain⟨e1,e2⟩:=nG.o G' (R'+y1) ud.o hr;exact⟨e1,kh.o G' e1 (tN.o G' (R'+y1) ud.o e2)⟩)
     go_wp2_with fail;go_quiet (fail);go_wp2_with fail;go_meet;exact⟨G',R'+y1,rfl,by go_num,HE.o.1,xg.o,HE.o.2,nj.drewN _⟩
 case rest=>
  obtain⟨G,R1,rfl,rfl,hG,xV,hGq,nj⟩:=hcut;clear mX tN nG kh WJ Ze cQ hQT hRy HQ dU ej nw p6 hy0;have oz:=HB.o.lt;have ag:=nj.blk HB.o;have ug:=nj.grown (some g);generalize hwc:wc=wd at *;clear hwc;go_wp2_with fail;go_loopw [9,10,85] (fun s9 s10 s85 wr=>∃(i cy bo:Nat) (zs:List Nat),i<=n+2/\s9= .int .u64 (cy:Int)/\s10= .int .u32 (bo:Int)/\s85= .int .i64 (i:Int)/\Ka RX w wr g k (n+2) us ys G i cy bo zs) (fun _ _ s85 _=>n+2-(intOf s85).toNat)
  case atStart=>exact⟨0,0,0,[],qaj _,rfl,rfl,rfl,rfl,Cq,by omega,by omega,by simp[val],by rw[Mu];exact ag,ug⟩
  case round=>
   obtain⟨i,cy,bo,zs,hi,rfl,rfl,rfl,hat⟩:=hrel;have eB:∀j,j<n+2->wr.cell? ⟨b,o+j,none⟩=some (d32 (ys.getD j 0)):=fun j hj=>by
    have h2:=hat.2.2.2.2.2.2.block b dR (by have:=kj.o;simpa using this);rw[<-HC.o j (by rw[yC.o];exact hj)];simp[World.cell?,h2]
   by_cases hlt:i<n+2
   ·have hx:=eB i hlt;have bF:=J (fun t d b' h1 h2 h3 h4 h5=>Ka.step (t:=t) (d:=d) (b':=b') hat hlt hk h1 h2 h3 h4 h5);obtain⟨fz,jl,Yc,q9,hv,ax,aC⟩:=hat;have hst:=ax.cell (k+i);have hfz:=ax.frozen (k+i);rw[Dv _ _ _ (by rw[AX (by omega)];omega),GM (by omega) (by omega)]at hst;have gC:=gS.get i;have pE:=aA.get (k+i);clear eB ax hv jl fz;have fu:=J aC;clear aC;obtain⟨y,ei⟩:∃y,ys.getD i 0=y:=⟨_,rfl⟩;obtain⟨u,nV⟩:∃u,us.getD (k+i) 0=u:=⟨_,rfl⟩;rw[ei]at hx gC bF;rw[nV]at hst pE bF;clear ei nV;have sf:=I0 hG gC;have oO:(G:Int)*(y:Int)=((G*y:Nat):Int):=by simp
    obtain⟨P,hP⟩:∃P,G*y=P:=⟨_,rfl⟩;rw[hP]at oO sf bF;clear hP;have hs:=fun W=>Pq W u (cy+P) bo pE q9
    simp only[qcd]at hs;have HS:=J hs;clear hs;have zq:cy+P<18446744073709551616:=by omega
    simp only[d32]at hx hst;go_wp2_with fail;refine(HS.o _).mono ?_
    rintro e w2 ⟨d,b',rfl,hd,io,he,rfl⟩;have oZ:=J (bF.o (cy+P) d b' rfl zq he hd io);clear he;go_wp2_with fail;go_roundw
    case rel=>exact⟨i+1,(cy+P) / 4294967296,b',_,by omega,by go_num,rfl,by go_num,oZ.o⟩
    case measure=>simp[intOf];omega
   ·obtain rfl:i=n+2:=by omega
    obtain⟨fz,jl,Yc,q9,hv,ax,aC⟩:=hat;have hst:=ax.cell (k+(n+2));have hfz:=ax.frozen (k+(n+2));rw[Dv _ _ _ (by rw[AX (by omega)];omega),GM (by omega) (by omega)]at hst;have pE:=aA.get (k+(n+2));have WW:=J (fun d b' h=>Sh (d:=d) (b':=b') fz yC.o (Ji (by omega)) hv h);rw[GE (by omega)]at WW;have uo:=J ax;have xA:=J eB;obtain⟨u,nV⟩:∃u,us.getD (k+(n+2)) 0=u:=⟨_,rfl⟩;rw[nV]at hst pE WW;clear nV eB ax hv;have fu:=J aC;clear aC;have HS:=J (fun W=>FR W u cy bo pE Yc q9);have hb2:((n:Int)+2).toNat=n+2:=by omega
    simp only[d32]at hst;go_wp2_with fail;refine(HS.o _).mono ?_
    rintro e w2 ⟨d,b',rfl,hd,io,he,rfl⟩;have gY:=J (WW.o d b' he);have oh:=jl.snoc hd;have qf:(zs++[d]).length=n+3:=by simp[fz]
    have gI:=uo.o.set_ (k+(n+2)) (d32 d);have h2:=GL (us:=us) (zs:=zs) (k:=k) (d:=d) (by omega);rw[fz]at h2;rw[E0 _ _ _ _ (by rw[AX (by omega)];omega),h2]at gI;have ba:=J gI;have lq:=J (EQ fu.o (k+(n+2)) (d32 d));clear he h2 gI HS;rcases(show G=q\/G=q+1 by omega) with hGe|hGe
    ·obtain⟨aD,hr⟩:=Oc oh qf gY.o (by rw[Zf.o];exact hGe) io;subst aD;have HR:=J hr;subst hGe;clear hr;go_wp2_with fail;go_ret;exact⟨zs++[d],rfl,qf,oh,HR.o,ba.o,lq.o⟩
    ·have yl:0<val ys:=gZ.o.vpos;obtain⟨aD,hr⟩:=Sg oh yl qf gY.o (by rw[Zf.o];exact hGe) io;subst aD;have HR:=J hr;have HRL:=J (qba (val (seg us k (n+2))) yl);clear hr;subst hGe;generalize hxs:zs++[d]=xs at *;clear hxs;have eU:IntKind.u64.wrap (((q+1:Nat):Int)-1)=(q:Int):=by rw[IntKind.wrap_u64];omega
     simp only[qcd,Int.natCast_one]at eU;go_wp2_with fail;go_loopw [13,133] (fun s13 s133 wr=>∃(i a:Nat) (zz:List Nat),i<=n+2/\s13= .int .u32 (a:Int)/\s133= .int .i64 (i:Int)/\Kd RX w wr g k us xs ys i a zz) (fun _ s133 _=>n+2-(intOf s133).toNat)
     case atStart=>exact⟨0,0,[],qaj _,rfl,rfl,rfl,Cq,by omega,by simp[val],by rw[Mu];exact ba.o,lq.o⟩
     case round=>
      clear xA hst hfz;obtain⟨i,a,zz,hi,rfl,rfl,hat⟩:=hrel;by_cases hlt:i<n+2
      ·have eB:wr.cell? ⟨b,o+i,none⟩=some (d32 (ys.getD i 0)):=by
        have h2:=hat.2.2.2.2.2.block b dR (by have:=kj.o;simpa using this);rw[<-HC.o i (by rw[yC.o];exact hlt)];simp[World.cell?,h2]
       have bF:=J (fun t h1 h2=>Kd.step (t:=t) hat (by omega) (by omega) h1 h2);obtain⟨fz,jl,ha,hv,ax,aC⟩:=hat;have hst:=ax.cell (k+i);have hfz:=ax.frozen (k+i);rw[Dv _ _ _ (by rw[AX (by rw[AX (by omega)];omega),AX (by omega)];omega),GM (by rw[AX (by omega)];omega) (by omega),OS (by omega) (by omega)]at hst;have gC:=gS.get i;have pE:=oh.get i;clear ax hv jl fz;have fu:=J aC;clear aC;obtain⟨y,ei⟩:∃y,ys.getD i 0=y:=⟨_,rfl⟩;obtain⟨u,nV⟩:∃u,xs.getD i 0=u:=⟨_,rfl⟩;rw[ei]at eB gC bF;rw[nV]at hst pE bF;clear ei nV;have HS:=J (fun W=>Q2 W u y a pE gC ha);have oZ:=J (bF.o (u+y+a) (by omega) rfl);simp only[d32]at eB hst;go_wp2_with fail;refine(HS.o _).mono ?_
       rintro e w2 ⟨rfl,rfl⟩;go_wp2_with fail;go_roundw
       case rel=>exact⟨i+1,(u+y+a) / 4294967296,_,by omega,rfl,by go_num,oZ.o⟩
       case measure=>simp[intOf];omega
      ·obtain rfl:i=n+2:=by omega
       obtain⟨fz,jl,ha,hv,ax,aC⟩:=hat;have hst:=ax.cell (k+(n+2));have hfz:=ax.frozen (k+(n+2));rw[Dv _ _ _ (by rw[AX (by rw[AX (by omega)];omega),AX (by omega)];omega),GM (by rw[AX (by omega)];omega) (by omega),OS (by omega) (by omega)]at hst;have hE:=SX jl gS fz yC.o (by omega:xs.length=n+2+1) rfl hv HR.o HRL.o;have gI:=ax.set_ (k+(n+2)) (d32 ((xs.getD (n+2) 0+a) % 4294967296));have h2:=GL (us:=over us k xs) (zs:=zz) (k:=k) (d:=(xs.getD (n+2) 0+a) % 4294967296) (by rw[AX (by omega)];omega);rw[fz]at h2;rw[E0 _ _ _ _ (by rw[AX (by rw[AX (by omega)];omega),AX (by omega)];omega),h2,Qa (by omega) (by simp[fz,qf])]at gI;have pE:=oh.get (n+2);have V5:=EQ aC (k+(n+2)) (d32 ((xs.getD (n+2) 0+a) % 4294967296));obtain⟨u,nV⟩:∃u,xs.getD (n+2) 0=u:=⟨_,rfl⟩;rw[nV]at hst pE hE gI V5;have HE:=J hE;have be:=J gI;have kS:=J V5;clear nV hE ax gI V5 h2 hv aC;simp only[d32]at hst;go_wp2_with fail;go_ret;exact⟨_,rfl,by simp[fz],jl.snoc (qba _ (by omega)),HE.o,be.o,kS.o⟩
def Nc(w0 wr:World)(N M k:Nat)(zs:List Nat):Prop:=
 zs.length=k/\Ok zs/\val zs=N % 4294967296 ^ k/\Blk wr w0.heap.size 183 (cells (zs++List.replicate (M-k) 0))/\Ext w0 wr
theorem Nc.step{w0 wr:World}{xs zs:List Nat}{d s M N k y:Nat}(h:Nc w0 wr N M k zs)(hk:k<M)(hs:s<=31)(aA:Ok xs)(hN:N=val (xs.drop d) / 2 ^ s)(hy:y=xs.getD (k+d) 0+4294967296*xs.getD (k+d+1) 0):
  Nc w0 (wr.setCell ⟨w0.heap.size,k,none⟩ (d32 (y / 2 ^ s % 4294967296))) N M (k+1) (zs++[y / 2 ^ s % 4294967296]):=by
 obtain⟨hl,jl,hv,hb,he⟩:=h;have h0:=Rp (aA.drop d) hN hs hl hv;rw[FY,FY,show d+k=k+d by omega,show d+(k+1)=k+d+1 by omega,<-hy]at h0;refine⟨by simp[hl],jl.snoc (qba _ (by omega)),h0,?_,he.setCell (qab _) _⟩;have h1:=hb.set_ k (d32 (y / 2 ^ s % 4294967296));rw[BE,show M-k=(M-(k+1))+1 by omega]at h1;have h2:=Do zs (M-(k+1)) (y / 2 ^ s % 4294967296);rw[hl]at h2
 rwa [h2]at h1
theorem Tj(w:World)(v:Value)(xs:List Nat)(n:Nat)(h:Arr w v xs)(hl:xs.length<=268435456)(hn:n<=1048576):
  Calls Tryz.prog 295 #[v,.int .i64 (n:Int)] w fun e w'=>∃v',e= .returned v'/\Own w.heap.size w' v' (Ac (val xs / 2 ^ n))/\Ext w w':=by
 have HA:=J h;have HP:=J (Jy w n hn);obtain⟨aA,A,cap,rfl,dL,eA,aa⟩:=h.open;have HC:=J aa;have HM:=J eA;obtain⟨d,s,hd,hs,hnd⟩:∃d s,d<=32768/\s<=31/\n=32*d+s:=⟨n / 32,n % 32,by omega,by omega,by omega⟩;have dl:=J hnd;have hq:(n:Int) / 32=(d:Int):=by omega
 have hr:(n:Int) % 32=(s:Int):=by omega
 clear h aa eA hnd;rcases qah d xs.length with h0|h0
 ·obtain⟨M,re⟩:∃M,xs.length=d+M:=⟨xs.length-d,by omega⟩;have dp:=Cn M (by omega);have ob:(xs.length:Int)-(d:Int)=(M:Int):=by omega
  have vV:¬(xs.length:Int)<=(d:Int):=by omega
  obtain⟨N,hN⟩:∃N,N=val (xs.drop d) / 2 ^ s:=⟨_,rfl⟩;have HN:=J hN;clear hN;have pa:=J (GJ s hs);have gO:=J re;have hM0:0<M:=by omega
  clear re;go_enter Tryz.func295,Tryz.ntmps295;go_wp2_with fail;refine HP.o.mono ?_
  rintro e w' ⟨rfl,rfl⟩;go_wp2_with fail;clear dp ob;go_loopw [28] (fun i wr=>∃(k:Nat) (zs:List Nat),k<=M/\i= .int .i64 k/\Nc w wr N M k zs) (fun i _=>M-(intOf i).toNat)
  case atStart=>exact⟨0,[],qaj _,rfl,rfl,Cq,by simp[val,Nat.mod_one],Blk.new _ _ _,(Ext.refl w).alloc _⟩
  case round=>
   obtain⟨k,zs,hk,rfl,hat⟩:=hrel;by_cases hlt:k<M
   ·have re:=gO.o;obtain⟨b,o,rfl,hb,aa⟩:=HC.o (by omega);have dk:=J (fun y h=>Nc.step (y:=y) hat hlt hs aA HN.o h);obtain⟨fz,jl,hv,bW,ae⟩:=hat;have hx:=(ae.cell hb).trans (aa (k+d) (by omega));have hst:=bW.cell k;have hfz:=bW.frozen k;rw[Bi _ _ (by simp;omega)]at hst;have cW:=aA.get (k+d);have oO:(2:Int) ^ s=((2 ^ s:Nat):Int):=by simp
    have VZ:0<2 ^ s:=qbb (by omega);obtain⟨P,hP⟩:∃P,2 ^ s=P:=⟨_,rfl⟩;rw[hP]at oO dk VZ;clear hP;generalize (zs++List.replicate (M-k) 0).getD k 0=z at hst;clear bW hv jl fz;have HX:=J ae;by_cases h2:k+d+1<xs.length
    ·have hy:=(ae.cell hb).trans (aa (k+d+1) h2);have gC:=aA.get (k+d+1);have bF:=J (dk.o _ rfl);clear aa ae dk re;obtain⟨x,bS⟩:∃x,xs.getD (k+d) 0=x:=⟨_,rfl⟩;obtain⟨y,ei⟩:∃y,xs.getD (k+d+1) 0=y:=⟨_,rfl⟩;rw[bS]at hx cW bF;rw[ei]at hy gC bF;clear bS ei;have q9:bits .or .u64 (x:Int) ((y:Int)*4294967296)=((x+4294967296*y:Nat):Int):=by
      rw[show (y:Int)*4294967296=((y*4294967296:Nat):Int) by omega,bits_or_u64_nat _ _ (by omega) (by omega)];have h3:=Nat.shiftLeft_add_eq_or_of_lt (i:=32) (b:=x) (by omega) y;rw[Nat.shiftLeft_eq]at h3;rw[Nat.or_comm,show y*4294967296=y*2 ^ 32 from rfl,<-h3];omega
     have uz:x+4294967296*y<18446744073709551616:=by omega
     obtain⟨t,ht⟩:∃t,x+4294967296*y=t:=⟨_,rfl⟩;rw[ht]at q9 uz bF;clear ht;simp only[d32]at hx hst hy;go_wp2_with fail;go_roundw
     case rel=>exact⟨k+1,_,by omega,by go_num,bF.o⟩
     case measure=>simp[intOf];omega
    ·have h0:xs.getD (k+d+1) 0=0:=Dh xs _ (by omega);have bF:=J (dk.o (xs.getD (k+d) 0) (by rw[h0];omega));clear aa ae dk h0;have h2':¬(k:Int)+(d:Int)+1<(xs.length:Int):=by omega
     have h3:(k:Int)+(d:Int)<(xs.length:Int):=by omega
     clear h2 re;obtain⟨x,bS⟩:∃x,xs.getD (k+d) 0=x:=⟨_,rfl⟩;rw[bS]at hx cW bF;clear bS;simp only[d32]at hx hst;go_wp2_with fail;go_roundw
     case rel=>exact⟨k+1,_,by omega,by go_num,bF.o⟩
     case measure=>simp[intOf];omega
   ·obtain rfl:k=M:=by omega
    obtain⟨fz,jl,hv,bW,ae⟩:=hat;rw[qaR,qcm,qbH]at bW;have re:=gO.o;have aB:Own w.heap.size wr (.slice (some ⟨w.heap.size,0,none⟩) k k) zs:=by
     have h3:=Own.block (B:=w.heap.size) jl bW (qab _) (by rw[fz];omega)
     rwa [fz]at h3
    have hval:val zs=val xs / 2 ^ n:=by
     rw[dl.o,<-L6 aA,<-HN.o];refine Ti (aA.drop d) HN.o ?_
     rw[hv,qbn,re,qbu]
    have ir:=J (CJ _ _ _ aB.arr);have cA:=CG zs;obtain⟨A1,c1,gD,HO⟩:=aB.take (size zs) cA;rw[Cf aB.ok,hval]at HO;rw[fz]at cA;injection gD with gD hv3 hv2
    clear hv3;subst gD;subst hv2;have HO:=J HO;generalize size zs=sz at *;clear hval aB bW hv fz re;go_wp2_with fail;refine ir.o.mono ?_
    rintro e w' ⟨rfl,rfl⟩;go_wp2_with fail;go_ret;exact⟨_,rfl,HO.o,ae⟩
 ·have HZ:val xs / 2 ^ n=0:=by rw[dl.o];exact Rq aA h0
  rw[HZ];clear HZ;have fC:(xs.length:Int)<=(d:Int):=by omega
  go_enter Tryz.func295,Tryz.ntmps295;go_wp2_with fail;refine HP.o.mono ?_
  rintro e w' ⟨rfl,rfl⟩;go_wp2_with fail;go_ret;exact⟨_,rfl,Own.none_ _ _,Ext.refl _⟩
theorem E4(w:World)(v:Value)(xs:List Nat)(m c:Nat)(h:Arr w v xs)(hn:xs.length<=536870912)(hm:m<4294967296)(hc:c<4294967296):
  Calls Tryz.prog 170 #[v,.int .u32 (m:Int),.int .u32 (c:Int)] w fun e w'=>∃v',e= .returned v'/\Own w.heap.size w' v' (Ac (val xs*m+c))/\Ext w w':=by
 have HA:=J h;obtain⟨aA,A,cap,rfl,dL,eA,aa⟩:=h.open;have HC:=J aa;clear h aa eA dL;go_enter Tryz.func170,Tryz.ntmps170;go_wp2_with fail;go_loopw [7,8,15] (fun out cy i wr=>∃(k q:Nat) (ys:List Nat),k<=xs.length/\q<4294967296/\i= .int .i64 k/\cy= .int .u64 q/\ys.length=k/\
   val ys+4294967296 ^ k*q=val (xs.take k)*m+c/\Own w.heap.size wr out ys/\Ext w wr) (fun _ _ i _=>xs.length-(intOf i).toNat)
 case atStart=>exact⟨0,c,[],qaj _,hc,rfl,rfl,rfl,by simp[val],Own.none_ _ _,Ext.refl w⟩
 case round=>
  obtain⟨k,q,ys,hk,hq,rfl,rfl,hl,hv,al,ae⟩:=hrel;have HV:=J hv;clear hv;have HL:=J hl;clear hl;have rT:=ae.size;by_cases hlt:k<xs.length
  ·obtain⟨b,o,rfl,hb,aa⟩:=HC.o (by omega);have hx:=(ae.cell hb).trans (aa k hlt);clear aa;have cW:=aA.get k;have HS:=J (Je xs ys k m c q hlt HL.o HV.o);have hp:=I0 cW hm;obtain⟨x,bS⟩:∃x,xs.getD k 0=x:=⟨_,rfl⟩;rw[bS]at hx cW hp HS;clear bS;have vD:(x:Int)*(m:Int)<=18446744065119617025:=by rw[<-qbz];omega
   have hp0:0<=(x:Int)*(m:Int):=by rw[<-qbz];omega
   have hy:(q+x*m) % 4294967296<4294967296:=qba _ (by omega);have HY:=J hy;clear hy;have ed:=J (show ys.length+[(q+x*m) % 4294967296].length<=2147483648 by simp[HL.o];omega);simp only[d32]at hx;go_wp2_with (at_builtin;go_must (refine AW rfl _ _ rfl rfl (al.ext ((Ext.refl _).alloc _)) rfl (Arr.fresh1 _ ((q+x*m) % 4294967296) HY.o) ed.o (by simp;omega) ?_;intro v' w' dw aC hb));go_roundw
   case rel=>
    refine⟨k+1,(q+x*m) / 4294967296,_,by omega,qbj (by omega),by go_num,by go_num,by simp[HL.o],HS.o,dw,(ae.alloc _).more hb⟩
   case measure=>simp[intOf];omega
  ·obtain rfl:k=xs.length:=by omega
   have ed:=J (show ys.length+[q].length<=2147483648 by simp[HL.o];omega);have hval:val (ys++[q])=val xs*m+c:=by
    rw[BS,HL.o,HV.o,qaf (qab _)]
   have gK:=J hval;clear hval;go_wp2_with (at_builtin;go_must (refine AW rfl _ _ rfl rfl (al.ext ((Ext.refl _).alloc _)) rfl (Arr.fresh1 _ q hq) ed.o (by simp;omega) ?_;intro v' w' dw aC hb));have HT:=J (CA _ _ _ dw.arr (by simp[HL.o];omega));rw[gK.o]at HT;refine HT.o.mono ?_
   rintro e w2 ⟨v2,rfl,ho,hx⟩;go_wp2_with fail;go_ret;have he:Ext w w':=(ae.alloc _).more hb;exact⟨_,rfl,ho.mono he.size,he.trans hx⟩
theorem GF(w:World)(n:Nat)(h:n<18446744073709551616):
  Calls Tryz.prog 62 #[.int .u64 (n:Int)] w fun e w'=>∃v',e= .returned v'/\Own w.heap.size w' v' (Ac n)/\Ext w w':=by
 have HN:=J h;clear h;go_enter Tryz.func62,Tryz.ntmps62;go_wp2_with fail;have h1:n % 4294967296<4294967296:=by omega
 have h2:n / 4294967296<4294967296:=by have:=HN.o;omega
 have HT:=CA _ _ _ (Own.fresh2 w (n % 4294967296) (n / 4294967296) h1 h2).arr (by simp);have hv:val [n % 4294967296,n / 4294967296]=n:=by simp[val];omega
 rw[hv]at HT;have e1:Value.int .u32 ((n:Int) % 4294967296)=d32 (n % 4294967296):=rfl;have e2:Value.int .u32 ((n:Int) / 4294967296 % 4294967296)=d32 (n / 4294967296):=congrArg (Value.int .u32) (by have:=HN.o;omega);rw[e1,e2];clear e1 e2 hv;refine HT.mono ?_
 rintro e w2 ⟨v2,rfl,ho,hx⟩;go_wp2_with fail;go_ret;have he:Ext w (w.alloc (.cells #[d32 (n % 4294967296),d32 (n / 4294967296)] 183)):=(Ext.refl w).alloc _;exact⟨_,rfl,ho.mono he.size,he.trans hx⟩
theorem Gk(w:World)(n:Nat)(h:n<18446744073709551616):
  Calls Tryz.prog 214 #[.int .u64 (n:Int)] w fun e w'=>∃v',e= .returned v'/\Own w.heap.size w' v' (Ac n)/\Ext w w':=by
 have HN:=J h;clear h;go_enter Tryz.func214,Tryz.ntmps214;go_wp2_with fail;have h1:n % 4294967296<4294967296:=by omega
 have h2:n / 4294967296<4294967296:=by have:=HN.o;omega
 have HT:=Bu _ _ _ (Own.fresh2 w (n % 4294967296) (n / 4294967296) h1 h2).arr (by simp);have hv:val [n % 4294967296,n / 4294967296]=n:=by simp[val];omega
 rw[hv]at HT;have e1:Value.int .u32 ((n:Int) % 4294967296)=d32 (n % 4294967296):=rfl;have e2:Value.int .u32 ((n:Int) / 4294967296 % 4294967296)=d32 (n / 4294967296):=congrArg (Value.int .u32) (by have:=HN.o;omega);rw[e1,e2];clear e1 e2 hv;refine HT.mono ?_
 rintro e w2 ⟨v2,rfl,ho,hx⟩;go_wp2_with fail;go_ret;have he:Ext w (w.alloc (.cells #[d32 (n % 4294967296),d32 (n / 4294967296)] 183)):=(Ext.refl w).alloc _;exact⟨_,rfl,ho.mono he.size,he.trans hx⟩
end Big
end Go.Proofs.YtkoaogkknnelaaaGreatDoor
