import Derived.Test.YtkoaogkknnelaaaGreatDoorM6
import Derived.Test.YtkoaogkknnelaaaGreatDoorKnuth
import Derived.Deep.CutBlock
import Derived.Deep.RegionLaw
set_option linter.unusedVariables false
set_option linter.unusedSimpArgs false
set_option maxHeartbeats 1000000
set_option maxRecDepth 100000
namespace Go.Proofs.YtkoaogkknnelaaaGreatDoor
namespace Big
open Lib renaming hid → J
open Go.RowKit
theorem Hi(a b:Nat)(ha:a<4294967296)(hb:b<4294967296):bits .and .u32 (a:Int) (b:Int)=((a &&& b:Nat):Int):=by
 have hx:a &&& b<2 ^ 32:=Nat.and_lt_two_pow _ (by omega);have h1:(BitVec.ofInt 32 (a:Int)).toNat=a:=by
  rw[BitVec.ofInt_natCast,BitVec.toNat_ofNat];exact Nat.mod_eq_of_lt (by omega)
 have h2:(BitVec.ofInt 32 (b:Int)).toNat=b:=by
  rw[BitVec.ofInt_natCast,BitVec.toNat_ofNat];exact Nat.mod_eq_of_lt (by omega)
 show IntKind.u32.wrap ((BitVec.ofInt 32 (a:Int) &&& BitVec.ofInt 32 (b:Int)).toNat:Int)=_;rw[BitVec.toNat_and,h1,h2,IntKind.wrap_u32];omega
theorem IM(a b:Nat)(ha:a<4294967296)(hb:b<4294967296):bits .or .u32 (a:Int) (b:Int)=((a ||| b:Nat):Int):=by
 have hx:a ||| b<2 ^ 32:=Nat.or_lt_two_pow (by omega) (by omega)
 have h1:(BitVec.ofInt 32 (a:Int)).toNat=a:=by
  rw[BitVec.ofInt_natCast,BitVec.toNat_ofNat];exact Nat.mod_eq_of_lt (by omega)
 have h2:(BitVec.ofInt 32 (b:Int)).toNat=b:=by
  rw[BitVec.ofInt_natCast,BitVec.toNat_ofNat];exact Nat.mod_eq_of_lt (by omega)
 show IntKind.u32.wrap ((BitVec.ofInt 32 (a:Int) ||| BitVec.ofInt 32 (b:Int)).toNat:Int)=_;rw[BitVec.toNat_or,h1,h2,IntKind.wrap_u32];omega
theorem Fs(a b:Nat)(ha:a<4294967296)(hb:b<4294967296):bits .xor .u32 (a:Int) (b:Int)=((a ^^^ b:Nat):Int):=by
 have hx:a ^^^ b<2 ^ 32:=Nat.xor_lt_two_pow (by omega) (by omega);have h1:(BitVec.ofInt 32 (a:Int)).toNat=a:=by
  rw[BitVec.ofInt_natCast,BitVec.toNat_ofNat];exact Nat.mod_eq_of_lt (by omega)
 have h2:(BitVec.ofInt 32 (b:Int)).toNat=b:=by
  rw[BitVec.ofInt_natCast,BitVec.toNat_ofNat];exact Nat.mod_eq_of_lt (by omega)
 show IntKind.u32.wrap ((BitVec.ofInt 32 (a:Int) ^^^ BitVec.ofInt 32 (b:Int)).toNat:Int)=_;rw[BitVec.toNat_xor,h1,h2,IntKind.wrap_u32];omega
theorem Ss{n:Nat}(h:n<4294967296):n / 2147483648=(n.testBit 31).toNat:=by
 rw[Nat.testBit_eq_decide_div_mod_eq,show (2:Nat) ^ 31=2147483648 from rfl];have:n / 2147483648<2:=by omega
 rcases Nat.lt_or_ge (n / 2147483648) 1 with h1|h1
 ·have:n / 2147483648=0:=by omega
  rw[this];rfl
 ·have:n / 2147483648=1:=by omega
  rw[this];rfl
theorem Lj{n:Nat}(h:n<4294967296):n.testBit 31=decide (2147483648<=n):=by
 rw[Nat.testBit_eq_decide_div_mod_eq,show (2:Nat) ^ 31=2147483648 from rfl];rw[decide_eq_decide];omega
theorem R2{x y b d b':Nat}(hx:x<4294967296)(hy:y<4294967296)(hb:b<=1)(hd:d<4294967296)(fX:b'<=1)(h:x+4294967296*b'=d+y+b):
  bits .or .u32 (bits .and .u32 (bits .xor .u32 IntKind.u32.max (x:Int)) (y:Int)) (bits .and .u32 (bits .xor .u32 IntKind.u32.max (bits .xor .u32 (x:Int) (y:Int))) (((x:Int)-(y:Int)-(b:Int)) % 4294967296)) / 2147483648=((b':Nat):Int):=by
 have e1:((x:Int)-(y:Int)-(b:Int)) % 4294967296=((d:Nat):Int):=by omega
 have e2:IntKind.u32.max=((4294967295:Nat):Int):=by rfl
 have l1:x ^^^ y<4294967296:=Nat.xor_lt_two_pow (n:=32) hx hy;have l2:4294967295 ^^^ x<4294967296:=Nat.xor_lt_two_pow (n:=32) (by decide) hx;have l3:4294967295 ^^^ (x ^^^ y)<4294967296:=Nat.xor_lt_two_pow (n:=32) (by decide) l1;have l4:(4294967295 ^^^ x) &&& y<4294967296:=Nat.and_lt_two_pow (n:=32) _ hy;have l5:(4294967295 ^^^ (x ^^^ y)) &&& d<4294967296:=Nat.and_lt_two_pow (n:=32) _ hd;have l6:(4294967295 ^^^ x) &&& y ||| (4294967295 ^^^ (x ^^^ y)) &&& d<4294967296:=Nat.or_lt_two_pow (n:=32) l4 l5
 rw[e1,e2,Fs _ _ (by decide) hx,Fs _ _ hx hy,Fs _ _ (by decide) l1,Hi _ _ l2 hy,Hi _ _ l3 hd,IM _ _ l4 l5];have key:((4294967295 ^^^ x) &&& y ||| (4294967295 ^^^ (x ^^^ y)) &&& d) / 2147483648=b':=by
  rw[Ss l6,Nat.testBit_or,Nat.testBit_and,Nat.testBit_and,Nat.testBit_xor,Nat.testBit_xor,Nat.testBit_xor,Lj hx,Lj hy,Lj hd,Lj (show 4294967295<4294967296 by decide)];by_cases hX:2147483648<=x<;>by_cases hY:2147483648<=y<;>by_cases hD:2147483648<=d<;>simp[hX,hY,hD]<;>omega
 omega
theorem QQ(w:World)(x y c:Nat)(hx:x<4294967296)(hy:y<4294967296)(hc:c<=1):
  Calls Tryz.prog 305 #[.int .u32 (x:Int),.int .u32 (y:Int),.int .u32 (c:Int)] w fun e w'=>e= .returned (.tuple #[.int .u32 (((x+y+c) % 4294967296:Nat):Int),.int .u32 (((x+y+c) / 4294967296:Nat):Int)])/\w=w':=by
 go_enter Tryz.func305,Tryz.ntmps305;go_wp2_with fail;go_ret2;exact⟨rfl,rfl⟩
theorem Js(w:World)(n:Nat)(hn:n<=1048576):
  Calls Tryz.prog 303 #[.int .i64 (n:Int)] w fun e w'=>e= .returned (.int .i64 (n:Int))/\w=w':=by
 go_enter Tryz.func303,Tryz.ntmps303;go_wp2_with fail;go_ret;exact⟨rfl,rfl⟩
theorem Kw(w:World)(x y b:Nat)(hx:x<4294967296)(hy:y<4294967296)(hb:b<=1):
  Calls Tryz.prog 304 #[.int .u32 (x:Int),.int .u32 (y:Int),.int .u32 (b:Int)] w fun e w'=>∃d b':Nat,e= .returned (.tuple #[.int .u32 (d:Int),.int .u32 (b':Int)])/\d<4294967296/\b'<=1/\x+4294967296*b'=d+y+b/\w=w':=by
 obtain⟨d,b',hd,fX,h⟩:∃d b':Nat,d<4294967296/\b'<=1/\x+4294967296*b'=d+y+b:=by
  by_cases h:x<y+b
  ·exact⟨x+4294967296-(y+b),1,by omega,by omega,by omega⟩
  ·exact⟨x-(y+b),0,by omega,by omega,by omega⟩
 have H:=J h;have hq:=R2 hx hy hb hd fX h;have e1:((x:Int)-(y:Int)-(b:Int)) % 4294967296=((d:Nat):Int):=by omega
 have E:=J e1;have E2:Hid (((((x:Int)-(y:Int)) % 4294967296)-(b:Int)) % 4294967296=((d:Nat):Int)):=J (by omega);have Q:=J hq;have hu:(IntKind.u32.signed=true)=False:=by simp[IntKind.signed]
 clear h hq e1;go_enter Tryz.func304,Tryz.ntmps304;go_wp2_with fail;go_ret2;rw[E.o]at Q;refine⟨d,b',?_,hd,fX,H.o,rfl⟩;simp only[E.o,E2.o,Q.o];rfl
def Nk(w0 wr:World)(xs:List Nat)(d s L k:Nat)(zs:List Nat)(c:Nat):Prop:=
 zs.length=k/\Ok zs/\c<2 ^ s/\val zs+4294967296 ^ k*c=val (xs.take k)*2 ^ s/\
  Blk wr w0.heap.size 183 (cells (List.replicate d 0++(zs++c::List.replicate (L-k) 0)))/\Ext w0 wr
theorem Nk.step{w0 wr:World}{xs zs:List Nat}{d s L k c y:Nat}(h:Nk w0 wr xs d s L k zs c)(hk:k<L)(hs:s<=31)(av:Ok xs)(hy:y=xs.getD k 0*2 ^ s):
  Nk w0 ((wr.setCell ⟨w0.heap.size,k+d,none⟩ (d32 (c+y % 4294967296))).setCell ⟨w0.heap.size,k+d+1,none⟩ (d32 (y / 4294967296))) xs d s L (k+1) (zs++[c+y % 4294967296]) (y / 4294967296):=by
 obtain⟨hl,ff,hc,hv,hb,he⟩:=h;obtain⟨p1,p2,p3⟩:=Kx (av.get k) hs;rw[<-hy]at p1 p2 p3;have a5:=Md hs hc p3 (Nat.mod_lt _ (by omega));refine⟨by simp[hl],ff.snoc a5,p1,Q8 hl hv hy,?_,(he.setCell (Nat.le_refl _) _).setCell (Nat.le_refl _) _⟩;have h1:=(hb.set_ (k+d) (d32 (c+y % 4294967296))).set_ (k+d+1) (d32 (y / 4294967296));rw[CI,CI]at h1;have e1:(List.replicate d 0++(zs++c::List.replicate (L-k) 0)).set (k+d) (c+y % 4294967296)=List.replicate d 0++(zs++(c+y % 4294967296)::List.replicate (L-k) 0):=by
  rw[List.set_append_right _ _ (by simp),List.length_replicate,show k+d-d=zs.length by omega,List.set_append_right _ _ (Nat.le_refl _),Nat.sub_self,List.set_cons_zero]
 have e2:(List.replicate d 0++(zs++(c+y % 4294967296)::List.replicate (L-k) 0)).set (k+d+1) (y / 4294967296)=List.replicate d 0++(zs++[c+y % 4294967296]++(y / 4294967296)::List.replicate (L-(k+1)) 0):=by
  rw[List.set_append_right _ _ (by simp;omega),List.length_replicate,show k+d+1-d=zs.length+1 by omega,List.set_append_right _ _ (by omega),Nat.add_sub_cancel_left,List.set_cons_succ,show L-k=(L-(k+1))+1 by omega,List.replicate_succ,List.set_cons_zero,List.append_assoc];rfl
 rwa [e1,e2]at h1
theorem Sz{d k c L:Nat}{zs:List Nat}(hl:zs.length=k):(List.replicate d 0++(zs++c::List.replicate (L-k) 0)).getD (k+d) 0=c:=by
 rw[List.getD_eq_getElem?_getD,List.getElem?_append_right (by simp),List.length_replicate,show k+d-d=zs.length by omega,List.getElem?_append_right (Nat.le_refl _),Nat.sub_self];rfl
theorem Pw(L d:Nat):zeros (L+d+1)=cells (List.replicate d 0++([]++0::List.replicate (L-0) 0)):=by
 rw[Fz,List.nil_append,Nat.sub_zero,<-List.replicate_succ,List.replicate_append_replicate,show d+(L+1)=L+d+1 by omega]
theorem OQ(w:World)(v:Value)(xs:List Nat)(n:Nat)(h:Arr w v xs)(hl:xs.length<=268435456)(hn:n<=1048576):
  Calls Tryz.prog 293 #[v,.int .i64 (n:Int)] w fun e w'=>∃v',e= .returned v'/\Own w.heap.size w' v' (Af (val xs*2 ^ n))/\Ext w w':=by
 have HS:=J (Er w v xs h);have hle:=size_le xs;have HA:=J h;have HT:=J (DD h.ok);have HP:=J (Js w n hn);obtain⟨av,A,cap,rfl,dK,gP,ac⟩:=h.open;have HC:=J ac;have HM:=J gP;obtain⟨d,s,hd,hs,hnd⟩:∃d s,d<=32768/\s<=31/\n=32*d+s:=⟨n / 32,n % 32,by omega,by omega,by omega⟩;have aQ:=J hnd;have hq:(n:Int) / 32=(d:Int):=by omega
 have hr:(n:Int) % 32=(s:Int):=by omega
 clear h ac gP hnd;rcases Nat.eq_zero_or_pos (size xs) with h0|h0
 ·have hz:=Ht h0;rw[hz,Nat.zero_mul];rw[h0]at HS;clear hz h0 hle hq hr;go_enter Tryz.func293,Tryz.ntmps293;go_wp2_with fail;refine HP.o.mono ?_
  rintro e w' ⟨rfl,rfl⟩;go_wp2_with fail;refine HS.o.mono ?_
  rintro e w' ⟨rfl,rfl⟩;go_wp2_with fail;go_ret;exact⟨_,rfl,Own.none_ _ _,Ext.refl _⟩
 ·have HV:Hid (val (xs.take (size xs))=val xs):=J (by rw[HT.o,Ah]);generalize size xs=L at *;have hL0:((L:Int) == 0)=false:=by rw[beq_eq_false_iff_ne];omega
  have dZ:=Es (L+d+1) (by omega);simp only[Int.natCast_add,Int.natCast_one]at dZ;have sR:=J (Jr s hs);go_enter Tryz.func293,Tryz.ntmps293;go_wp2_with fail;refine HP.o.mono ?_
  rintro e w' ⟨rfl,rfl⟩;go_wp2_with fail;refine HS.o.mono ?_
  rintro e w' ⟨rfl,rfl⟩;go_wp2_with fail;clear dZ;go_loopw [33] (fun i wr=>∃(k:Nat) (zs:List Nat) (c:Nat),k<=L/\i= .int .i64 k/\Nk w wr xs d s L k zs c) (fun i _=>L-(intOf i).toNat)
  case atStart=>exact⟨0,[],0,Nat.zero_le _,rfl,rfl,Cx,Nat.pow_pos (by omega),by simp[val],by rw[<-Pw];exact Blk.new _ _ _,(Ext.refl w).alloc _⟩
  case round=>
   obtain⟨k,zs,c,hk,rfl,hat⟩:=hrel;by_cases hlt:k<L
   ·obtain⟨b,o,rfl,hb,ac⟩:=HC.o (by omega);have cB:=J (fun y h=>Nk.step (y:=y) hat hlt hs av h);obtain⟨gy,ff,hc,hv,b9,an⟩:=hat;have hx:=(an.cell hb).trans (ac k (by omega));clear ac;have ai:=b9.cell (k+d);have rG:=b9.cell (k+d+1);have hfz:=b9.frozen (k+d);have YO:=b9.frozen (k+d+1);rw[CK _ _ (by simp;omega),Sz gy]at ai;rw[CK _ _ (by simp;omega)]at rG;obtain⟨dS,dp,nI⟩:=Kx (av.get k) hs;have lx:=Te hc nI;have a5:=Md hs hc nI (Nat.mod_lt _ (by omega));have fo:=av.get k;have rJ:=sR.o;generalize (List.replicate d 0++(zs++c::List.replicate (L-k) 0)).getD (k+d+1) 0=z at rG;clear b9 hv ff gy nI;have HX:=J an;clear an;obtain⟨x,hxe⟩:∃x,xs.getD k 0=x:=⟨_,rfl⟩;rw[hxe]at hx fo cB dS dp lx a5;clear hxe;have su:(2:Int) ^ s=((2 ^ s:Nat):Int):=by simp
    obtain⟨P,hP⟩:∃P,2 ^ s=P:=⟨_,rfl⟩;rw[hP]at su dS dp lx a5 hc rJ cB;clear hP;have ku:(x:Int)*(P:Int)=((x*P:Nat):Int):=by simp
    have aF:=J (cB.o _ rfl);obtain⟨y,hy⟩:∃y,x*P=y:=⟨_,rfl⟩;rw[hy]at ku dS dp lx a5 aF;clear hy cB;have pc:bits .or .u32 (c:Int) ((y:Int) % 4294967296)=((c+y % 4294967296:Nat):Int):=by
     rw[show (y:Int) % 4294967296=((y % 4294967296:Nat):Int) by omega,IM _ _ (by omega) (by omega),lx]
    clear lx;simp only[d32]at hx ai rG;go_wp2_with fail;go_roundw
    case rel=>exact⟨k+1,_,_,by omega,by go_num,aF.o⟩
    case measure=>simp[intOf];omega
   ·obtain rfl:k=L:=by omega
    obtain⟨gy,ff,hc,hv,b9,an⟩:=hat;rw[Nat.sub_self,List.replicate_zero]at b9;have rJ:=sR.o;have zZ:c<4294967296:=by omega
    have hall:Ok (List.replicate d 0++(zs++[c])):=(Ok.zeros d).append (ff.snoc zZ);have ao:(List.replicate d 0++(zs++[c])).length=k+d+1:=by simp;omega
    have bQ:Own w.heap.size wr (.slice (some ⟨w.heap.size,0,none⟩) (k+d+1) (k+d+1)) (List.replicate d 0++(zs++[c])):=by
     have h3:=Own.block (B:=w.heap.size) hall b9 (Nat.le_refl _) (by rw[ao];omega)
     rwa [ao]at h3
    have hval:val (List.replicate d 0++(zs++[c]))=val xs*2 ^ n:=by
     rw[aQ.o];refine Sy d s _ _ ?_
     rw[Cm,gy,hv,HV.o]
    have eM:=J (Er _ _ _ bQ.arr);have cQ:=size_le (List.replicate d 0++(zs++[c]));obtain⟨A1,c1,hv1,HO⟩:=bQ.take (size (List.replicate d 0++(zs++[c]))) cQ;rw[DD bQ.ok,hval]at HO;rw[ao]at cQ;injection hv1 with hv1 hv3 hv2
    clear hv3;subst hv1;subst hv2;have HO:=J HO;generalize size (List.replicate d 0++(zs++[c]))=sz at *;clear hval bQ ao hall b9 hv hc gy;go_wp2_with fail;refine eM.o.mono ?_
    rintro e w' ⟨rfl,rfl⟩;go_wp2_with fail;go_ret;exact⟨_,rfl,HO.o,an⟩
theorem DN(xs:List Nat)(RX:Array Value)(i:Nat)(h:i<xs.length):(cells xs++RX)[i]? =some (d32 (xs.getD i 0)):=by
 rw[Array.getElem?_append_left (by rw[Jc];exact h),CK xs i h]
theorem Fd(xs:List Nat)(RX:Array Value)(i y:Nat)(h:i<xs.length):(cells xs++RX).setIfInBounds i (d32 y)=cells (xs.set i y)++RX:=by
 rw[<-CI];apply Array.ext';simp only[Array.toList_setIfInBounds,Array.toList_append];rw[List.set_append_left _ _ (by simpa [cells] using h)]
theorem Arr.kept{w w':World}{g:Nat}{v:Value}{ys:List Nat}(h:Arr w v ys)(hg:w.grownBy w' (some g))(hne:∀b o n c,v= .slice (some ⟨b,o,none⟩) n c->b≠g):Arr w' v ys:=by
 obtain⟨av,A,c,rfl,hc,hm,ac⟩:=h.open;refine Arr.mk av hc hm fun hp=> ?_
 obtain⟨b,o,rfl,hb,h1⟩:=ac hp;refine⟨b,o,rfl,Nat.lt_of_lt_of_le hb hg.size,fun j hj=> ?_⟩;have h2:=hg.block b hb (by simpa using hne b o _ _ rfl);rw[<-h1 j hj];simp[World.cell?,h2]
structure Dr (w w':World):Prop where
 heap:w'.heap=w.heap
 grown:∀g,w.grownBy w' g
theorem Dr.refl(w:World):Dr w w:=⟨rfl,fun _=>⟨rfl,rfl,rfl,Nat.le_refl _,fun _ _ _=>rfl⟩⟩
theorem Dr.drewN{w w':World}(h:Dr w w')(n:Nat):Dr w (w'.drewN n):=⟨h.heap,fun g=>⟨(h.grown g).os,(h.grown g).tape,(h.grown g).output,(h.grown g).size,(h.grown g).block⟩⟩
theorem Dr.cell{w w':World}(h:Dr w w')(p:Addr):w'.cell? p=w.cell? p:=by
 have:=h.heap;simp[World.cell?,this]
theorem Dr.blk{w w':World}{g:Nat}{t:TypeId}{cs:Array Value}(h:Dr w w')(hb:Blk w g t cs):Blk w' g t cs:=by
 unfold Blk;rw[h.heap];exact hb
def Kb(RX:Array Value)(w0 wr:World)(g k n:Nat)(us ys:List Nat)(G i c b:Nat)(zs:List Nat):Prop:=
 zs.length=i/\Ok zs/\c<4294967296/\b<=1/\val zs+G*val (ys.take i)=val ((seg us k n).take i)+4294967296 ^ i*(c+b)/\
  Blk wr g 183 (cells (over us k zs)++RX)/\w0.grownBy wr (some g)
theorem E3{w0 wr:World}{g:Nat}(h:w0.grownBy wr (some g))(i:Nat)(u:Value):w0.grownBy (wr.setCell ⟨g,i,none⟩ u) (some g):=
 ⟨h.os,h.tape,h.output,by simpa using h.size,fun b hb hne=>by
  rw[<-h.block b hb hne];exact Below.heap_setCell wr ⟨g,i,none⟩ u b (by simpa using hne)⟩
theorem Kb.step {RX:Array Value} {w0 wr:World} {g k n G i c b t d b':Nat} {us ys zs:List Nat} (h:Kb RX w0 wr g k n us ys G i c b zs) (hi:i<n) (hk:k+n+1<=us.length)
  (ht:t=c+G*ys.getD i 0) (yX:t<18446744073709551616) (hd:us.getD (k+i) 0+4294967296*b'=d+t % 4294967296+b) (ky:d<4294967296) (fX:b'<=1):
  Kb RX w0 (wr.setCell ⟨g,k+i,none⟩ (d32 d)) g k n us ys G (i+1) (t / 4294967296) b' (zs++[d]):=by
 obtain⟨hl,av,hc,hb,hv,aw,al⟩:=h;refine⟨by simp[hl],av.snoc ky,Nat.div_lt_of_lt_mul (by omega),fX,P8 hl hv ht (by rw[GX (by omega)];exact hd),?_,E3 al _ _⟩;have h1:=aw.set_ (k+i) (d32 d);have h2:=G2 (us:=us) (zs:=zs) (k:=k) (d:=d) (by omega);rw[hl]at h2;rw[Fd _ _ _ _ (by simp[over];omega),h2]at h1;exact h1
def Kc(RX:Array Value)(w0 wr:World)(g k:Nat)(us xs ys:List Nat)(i a:Nat)(zz:List Nat):Prop:=
 zz.length=i/\Ok zz/\a<=1/\val zz+4294967296 ^ i*a=val (xs.take i)+val (ys.take i)/\Blk wr g 183 (cells (over (over us k xs) k zz)++RX)/\w0.grownBy wr (some g)
theorem Kc.step {RX:Array Value} {w0 wr:World} {g k i a t:Nat} {us xs ys zz:List Nat} (h:Kc RX w0 wr g k us xs ys i a zz) (hi:k+i<us.length) (hk:k+xs.length<=us.length) (yX:t<8589934592)
  (ht:t=xs.getD i 0+ys.getD i 0+a):Kc RX w0 (wr.setCell ⟨g,k+i,none⟩ (d32 (t % 4294967296))) g k us xs ys (i+1) (t / 4294967296) (zz++[t % 4294967296]):=by
 obtain⟨hl,av,ha,hv,aw,al⟩:=h;refine⟨by simp[hl],av.snoc (Nat.mod_lt _ (by omega)),by omega,QO hl hv (by omega),?_,E3 al _ _⟩;have h1:=aw.set_ (k+i) (d32 (t % 4294967296));have h2:=G2 (us:=over us k xs) (zs:=zz) (k:=k) (d:=t % 4294967296) (by rw[AK hk];omega);rw[hl]at h2;rw[Fd _ _ _ _ (by simp[over];omega),h2]at h1;exact h1
theorem Pt(w:World)(x t b:Nat)(hx:x<4294967296)(hb:b<=1):
  Calls Tryz.prog 304 #[.int .u32 (x:Int),.int .u32 ((t:Int) % 4294967296),.int .u32 (b:Int)] w fun e w'=>∃d b':Nat,e= .returned (.tuple #[.int .u32 (d:Int),.int .u32 (b':Int)])/\d<4294967296/\b'<=1/\x+4294967296*b'=d+t % 4294967296+b/\w=w':=
 Kw w x (t % 4294967296) b hx (Nat.mod_lt _ (by omega)) hb
theorem Qz (RX:Array Value) (w:World) (g k c n:Nat) (us:List Nat) (v:Value) (ys:List Nat) (hb:Blk w g 183 (cells us++RX)) (av:Ok us) (hn:ys.length=n+2) (hk:k+(n+2)+1<=us.length) (hm:us.length<=1073741824)
  (_hc:n+3<=c) (UF:c<=maxLen) (hv:Arr w v ys) (hne:∀b o m c,v= .slice (some ⟨b,o,none⟩) m c->b≠g) (uE:1<=ys.getD (n+1) 0) (hlt:val (seg us k (n+2))<val ys*4294967296):
  Calls Tryz.prog 294 #[.slice (some ⟨g,k,none⟩) (n+3:Nat) c,v] w fun e w'=>∃zs,e= .returned (.int .u32 ((val (seg us k (n+2)) / val ys:Nat):Int))/\zs.length=n+3/\Ok zs/\val zs=val (seg us k (n+2)) % val ys/\
   Blk w' g 183 (cells (over us k zs)++RX)/\w.grownBy w' (some g):=by
 have HV:=J hv;obtain⟨ma,A,cap,rfl,dK,gP,od⟩:=hv.open;obtain⟨b,o,rfl,fW,ac⟩:=od (by omega);clear od;have cW:=J (hne b o _ _ rfl);have HC:=J ac;have HB:=J hb;have dF:=hb.cell (k+(n+2));have dR:=hb.cell (k+(n+1));have mP:=hb.cell (k+n);rw[DN _ _ _ (by omega)]at dF dR mP;have qt:=ac (n+1) (by omega);have hy0:=ac n (by omega);have um:=av.get (k+(n+2));have uo:=av.get (k+(n+1));have ry:=av.get (k+n);have yK:=ma.get (n+1);have rr:=ma.get n;have gD:Hid (Knuth.Setup 4294967296 (val (seg us k (n+2))) (val ys) (ys.getD (n+1) 0) (ys.getD n 0) (4294967296 ^ n) (us.getD (k+(n+2)) 0*4294967296+us.getD (k+(n+1)) 0) (us.getD (k+n) 0)):=J (by
  have e1:=BF ys n;have e2:=BF (seg us k (n+2)) n;rw[Bo,Bo,List.drop_eq_nil_of_le (by omega),val]at e1;rw[Bo,Bo,Bo,List.drop_eq_nil_of_le (by rw[Je (by omega)];omega),val,GX (by omega),GX (by omega),GX (by omega)]at e2;refine⟨⟨_,BT ma n,?_⟩,⟨_,BT (av.seg k (n+2)) n,?_⟩,hlt,uE,rr,ry,Jq n⟩
  ·rw[e1,Nat.mul_comm (4294967296 ^ n),Nat.add_comm]
   congr 2
   omega
  ·rw[e2,Nat.mul_comm (4294967296 ^ n),Nat.add_comm,show k+(n+1+1)=k+(n+2) by omega]
   congr 2
   omega)
 obtain⟨x2,au⟩:∃x,us.getD (k+(n+2)) 0=x:=⟨_,rfl⟩;obtain⟨x1,am⟩:∃x,us.getD (k+(n+1)) 0=x:=⟨_,rfl⟩;obtain⟨x0,hx0⟩:∃x,us.getD (k+n) 0=x:=⟨_,rfl⟩;obtain⟨y1,ui⟩:∃x,ys.getD (n+1) 0=x:=⟨_,rfl⟩;obtain⟨y0,uj⟩:∃x,ys.getD n 0=x:=⟨_,rfl⟩;rw[au]at dF um gD;rw[am]at dR uo gD;rw[hx0]at mP ry gD;rw[ui]at qt yK gD uE;rw[uj]at hy0 rr gD;clear au am hx0 ui uj;have lx:=N0 x2 x1 um uo;have hT:x2*4294967296+x1<18446744073709551616:=by omega
 obtain⟨T,Un⟩:∃T,x2*4294967296+x1=T:=⟨_,rfl⟩;rw[Un]at lx hT gD;have nc:=J Un;have yf:=J hn;have aW:=J hlt;unfold maxLen at UF;rw[hn]at dK ⊢;clear Un hb ac hv hlt hne hn;simp only[d32]at dF dR mP qt hy0;have aL:IntKind.i64.wrap ((n:Int)+2-1)=(n:Int)+1:=by rw[IntWalk.i64_in _ (by omega)];omega
 have aY:IntKind.i64.wrap ((n:Int)+2-2)=(n:Int):=by rw[IntWalk.i64_in _ (by omega)];omega
 have xG:((n:Int)+1).toNat=n+1:=by omega
 have gM:((n:Int)+2).toNat=n+2:=by omega
 have h01:(0:Int)<=(n:Int)+1:=by omega
 have h02:(0:Int)<=(n:Int)+2:=by omega
 have UX:=J gD.o.q_first;obtain⟨q,hq⟩:∃q,val (seg us k (n+2)) / val ys=q:=⟨_,rfl⟩;have oA:=J (fun G R=>gD.o.lower (g:=G) (r:=R));have bx:=J (fun G R=>gD.o.done (g:=G) (r:=R));have gE:=J (fun G R=>gD.o.broken (g:=G) (r:=R));have iF:=J (fun G=>gD.o.near (g:=G));rw[hq]at UX oA iF ⊢;have W0:=J hq;clear hq;go_enter Tryz.func294,Tryz.ntmps294;go_wp2_with fail;go_quiet (fail);go_wp2_with fail;have XJ:(0:Int)<(y1:Int):=by omega
 obtain⟨Q,hQ⟩:∃Q,T / y1=Q:=⟨_,rfl⟩;obtain⟨R,hR⟩:∃R,T % y1=R:=⟨_,rfl⟩;have Zc:Q<=T:=by rw[<-hQ];exact Nat.div_le_self _ _
 have Za:R<y1:=by rw[<-hR];exact Nat.mod_lt _ (by omega)
 have WZ:Hid (Q*y1+R=T):=J (by rw[<-hQ,<-hR];exact Nat.div_add_mod' T y1);have Y8:IntKind.u64.wrap ((T:Int) / (y1:Int))=(Q:Int):=by
  rw[<-Int.natCast_ediv,hQ,IntKind.wrap_u64];omega
 have WB:(T:Int) % (y1:Int)=(R:Int):=by rw[<-Int.natCast_emod,hR]
 have HQ:Hid (q<=Q):=J (by
  rw[<-hQ];exact(Nat.le_div_iff_mul_le (by omega)).2 UX.o)
 clear hQ hR;go_quiet (fail);have cJ:=J WB;clear Y8 WB lx
 go_upto_block 0 with fail
 go_cut [7,8] from 47 to 82 (fun s7 s8 wx=>∃G R:Nat,s7= .int .u64 (G:Int)/\s8= .int .u64 (R:Int)/\G<4294967296/\q<=G/\G<=q+1/\Dr w wx)
 case first=>
  go_wp2_with fail;go_loopw [7,8] (fun s7 s8 wr=>∃G R:Nat,s7= .int .u64 (G:Int)/\s8= .int .u64 (R:Int)/\Hid (G*y1+R=T)/\G<=Q/\q<=G/\R<4294967296/\Dr w wr) (fun s7 _ _=>(intOf s7).toNat)
  case atStart=>exact⟨Q,R,rfl,by rw[cJ.o],WZ,Nat.le_refl _,HQ.o,by omega,(Dr.refl _).drewN _ |>.drewN _⟩
  case round=>
   obtain⟨G,R',rfl,rfl,gW,hGQ,xK,Zb,mJ⟩:=hrel;have XY:=(mJ.cell _).trans dF;have XZ:=(mJ.cell _).trans dR;have X0:=(mJ.cell _).trans mP;have XK:=(mJ.cell _).trans qt;have XL:=(mJ.cell _).trans hy0;rcases Nat.lt_or_ge G 4294967296 with hG|hG
   ·have aX:(((G:Int) / 4294967296) != 0)=false:=by rw[bne_eq_false_iff_eq];omega
    have hb2:(((G:Int) / 4294967296) == 0)=true:=by rw[beq_iff_eq];omega
    have zk:=N0 R' x0 Zb ry;have nH:=IU hG rr;have su:(G:Int)*(y0:Int)=((G*y0:Nat):Int):=by simp
    have cj:=J (fun h=>oA.o G R' gW.o xK (.inr h));have lX:=J (fun h=>iF.o G hG (bx.o G R' gW.o h));have Y9:R'*4294967296+x0<18446744073709551616:=by omega
    obtain⟨P,hP⟩:∃P,G*y0=P:=⟨_,rfl⟩;obtain⟨S,hS⟩:∃S,R'*4294967296+x0=S:=⟨_,rfl⟩;rw[hP]at su nH cj lX;rw[hS]at zk Y9 cj lX;clear hP hS;rcases Nat.lt_or_ge S P with vY|vY
    ·have h1:=cj.o vY;have hd:decide (S<P)=true:=by simpa using vY
     have ba:decide ((S:Int)<(P:Int))=true:=by simpa using vY
     obtain⟨G',sw⟩:∃G',G=G'+1:=⟨G-1,by omega⟩;have vu:(G:Int)-1=(G':Int):=by omega
     have Vo:=J sw;have tm:Hid (G'*y1+(R'+y1)=T):=J (by
      have:=gW.o;rw[sw,Nat.add_mul,Nat.one_mul]at this;omega)
     have Vd:Hid (G'<=Q):=J (by omega);have wu:Hid (q<=G'):=J (by omega);clear sw;rcases Nat.lt_or_ge (R'+y1) 4294967296 with hr|hr
     ·have hc1:(((R':Int)+(y1:Int)) / 4294967296 != 0)=false:=by rw[bne_eq_false_iff_eq];omega
      have hc2:(((R':Int)+(y1:Int)) / 4294967296 == 0)=true:=by rw[beq_iff_eq];omega
      go_wp2_with fail;go_quiet (fail);go_wp2_with fail;go_roundw
      case rel=>exact⟨G',R'+y1,rfl,by go_num,tm,Vd.o,wu.o,hr,mJ.drewN _⟩
      case measure=>have:=Vo.o;simp[intOf];omega
     ·have hc1:(((R':Int)+(y1:Int)) / 4294967296 != 0)=true:=by rw[bne_iff_ne];omega
      have hc2:(((R':Int)+(y1:Int)) / 4294967296 == 0)=false:=by rw[beq_eq_false_iff_ne];omega
      have HE:Hid (G'<4294967296/\G'<=q+1):=J (by
       obtain⟨e1,e2⟩:=gE.o G' (R'+y1) tm.o hr;exact⟨e1,iF.o G' e1 (bx.o G' (R'+y1) tm.o e2)⟩)
      go_wp2_with fail;go_quiet (fail);go_wp2_with fail;go_meet;exact⟨G',R'+y1,rfl,by go_num,HE.o.1,wu.o,HE.o.2,mJ.drewN _⟩
    ·have hd:decide (S<P)=false:=by simp;omega
     have ba:decide ((S:Int)<(P:Int))=false:=by simp;omega
     have HE:=J (lX.o vY);go_wp2_with fail;go_quiet (fail);go_wp2_with fail;go_meet;exact⟨G,R',rfl,rfl,hG,xK,HE.o,mJ.drewN _⟩
   ·have h1:=oA.o G R' gW.o xK (.inl hG);have aX:(((G:Int) / 4294967296) != 0)=true:=by rw[bne_iff_ne];omega
    have hb2:(((G:Int) / 4294967296) == 0)=false:=by rw[beq_eq_false_iff_ne];omega
    obtain⟨G',sw⟩:∃G',G=G'+1:=⟨G-1,by omega⟩;have vu:(G:Int)-1=(G':Int):=by omega
    have Vo:=J sw;have tm:Hid (G'*y1+(R'+y1)=T):=J (by
     have:=gW.o;rw[sw,Nat.add_mul,Nat.one_mul]at this;omega)
    have Vd:Hid (G'<=Q):=J (by omega);have wu:Hid (q<=G'):=J (by omega);clear sw;rcases Nat.lt_or_ge (R'+y1) 4294967296 with hr|hr
    ·have hc1:(((R':Int)+(y1:Int)) / 4294967296 != 0)=false:=by rw[bne_eq_false_iff_eq];omega
     have hc2:(((R':Int)+(y1:Int)) / 4294967296 == 0)=true:=by rw[beq_iff_eq];omega
     go_wp2_with fail;go_quiet (fail);go_wp2_with fail;go_roundw
     case rel=>exact⟨G',R'+y1,rfl,by go_num,tm,Vd.o,wu.o,hr,mJ.drewN _⟩
     case measure=>have:=Vo.o;simp[intOf];omega
    ·have hc1:(((R':Int)+(y1:Int)) / 4294967296 != 0)=true:=by rw[bne_iff_ne];omega
     have hc2:(((R':Int)+(y1:Int)) / 4294967296 == 0)=false:=by rw[beq_eq_false_iff_ne];omega
     have HE:Hid (G'<4294967296/\G'<=q+1):=J (by
      obtain⟨e1,e2⟩:=gE.o G' (R'+y1) tm.o hr;exact⟨e1,iF.o G' e1 (bx.o G' (R'+y1) tm.o e2)⟩)
     go_wp2_with fail;go_quiet (fail);go_wp2_with fail;go_meet;exact⟨G',R'+y1,rfl,by go_num,HE.o.1,wu.o,HE.o.2,mJ.drewN _⟩
 case rest=>
  obtain⟨G,R1,rfl,rfl,hG,xK,hGq,mJ⟩:=hcut;clear oA bx gE iF UX WZ cJ Zc Za HQ dF dR mP qt hy0;have lG:=HB.o.lt;have aM:=mJ.blk HB.o;have jp:=mJ.grown (some g);generalize hwc:wc=wd at *;clear hwc;go_wp2_with fail;go_loopw [9,10,85] (fun s9 s10 s85 wr=>∃(i cy bo:Nat) (zs:List Nat),i<=n+2/\s9= .int .u64 (cy:Int)/\s10= .int .u32 (bo:Int)/\s85= .int .i64 (i:Int)/\Kb RX w wr g k (n+2) us ys G i cy bo zs) (fun _ _ s85 _=>n+2-(intOf s85).toNat)
  case atStart=>exact⟨0,0,0,[],Nat.zero_le _,rfl,rfl,rfl,rfl,Cx,by omega,by omega,by simp[val],by rw[Mx];exact aM,jp⟩
  case round=>
   obtain⟨i,cy,bo,zs,hi,rfl,rfl,rfl,hat⟩:=hrel;have aC:∀j,j<n+2->wr.cell? ⟨b,o+j,none⟩=some (d32 (ys.getD j 0)):=fun j hj=>by
    have h2:=hat.2.2.2.2.2.2.block b fW (by have:=cW.o;simpa using this);rw[<-HC.o j (by rw[yf.o];exact hj)];simp[World.cell?,h2]
   by_cases hlt:i<n+2
   ·have hx:=aC i hlt;have aF:=J (fun t d b' h1 h2 h3 h4 h5=>Kb.step (t:=t) (d:=d) (b':=b') hat hlt hk h1 h2 h3 h4 h5);obtain⟨gy,ff,hcy,pc,hv,aw,al⟩:=hat;have ai:=aw.cell (k+i);have hfz:=aw.frozen (k+i);rw[DN _ _ _ (by rw[AK (by omega)];omega),G3 (by omega) (by omega)]at ai;have pq:=ma.get i;have oU:=av.get (k+i);clear aC aw hv ff gy;have gW:=J al;clear al;obtain⟨y,fm⟩:∃y,ys.getD i 0=y:=⟨_,rfl⟩;obtain⟨u,nC⟩:∃u,us.getD (k+i) 0=u:=⟨_,rfl⟩;rw[fm]at hx pq aF;rw[nC]at ai oU aF;clear fm nC;have nH:=IU hG pq;have su:(G:Int)*(y:Int)=((G*y:Nat):Int):=by simp
    obtain⟨P,hP⟩:∃P,G*y=P:=⟨_,rfl⟩;rw[hP]at su nH aF;clear hP;have hs:=fun W=>Pt W u (cy+P) bo oU pc
    simp only[Int.natCast_add]at hs;have HS:=J hs;clear hs;have yX:cy+P<18446744073709551616:=by omega
    simp only[d32]at hx ai;go_wp2_with fail;refine(HS.o _).mono ?_
    rintro e w2 ⟨d,b',rfl,hd,fX,he,rfl⟩;have sK:=J (aF.o (cy+P) d b' rfl yX he hd fX);clear he;go_wp2_with fail;go_roundw
    case rel=>exact⟨i+1,(cy+P) / 4294967296,b',_,by omega,by go_num,rfl,by go_num,sK.o⟩
    case measure=>simp[intOf];omega
   ·obtain rfl:i=n+2:=by omega
    obtain⟨gy,ff,hcy,pc,hv,aw,al⟩:=hat;have ai:=aw.cell (k+(n+2));have hfz:=aw.frozen (k+(n+2));rw[DN _ _ _ (by rw[AK (by omega)];omega),G3 (by omega) (by omega)]at ai;have oU:=av.get (k+(n+2));have dB:=J (fun d b' h=>RB (d:=d) (b':=b') gy yf.o (Je (by omega)) hv h);rw[GX (by omega)]at dB;have ki:=J aw;have xi:=J aC;obtain⟨u,nC⟩:∃u,us.getD (k+(n+2)) 0=u:=⟨_,rfl⟩;rw[nC]at ai oU dB;clear nC aC aw hv;have gW:=J al;clear al;have HS:=J (fun W=>Kw W u cy bo oU hcy pc);have hb2:((n:Int)+2).toNat=n+2:=by omega
    simp only[d32]at ai;go_wp2_with fail;refine(HS.o _).mono ?_
    rintro e w2 ⟨d,b',rfl,hd,fX,he,rfl⟩;have iE:=J (dB.o d b' he);have nJ:=ff.snoc hd;have pG:(zs++[d]).length=n+3:=by simp[gy]
    have fV:=ki.o.set_ (k+(n+2)) (d32 d);have h2:=G2 (us:=us) (zs:=zs) (k:=k) (d:=d) (by omega);rw[gy]at h2;rw[Fd _ _ _ _ (by rw[AK (by omega)];omega),h2]at fV;have aP:=J fV;have dE:=J (E3 gW.o (k+(n+2)) (d32 d));clear he h2 fV HS;rcases(show G=q\/G=q+1 by omega) with hGe|hGe
    ·obtain⟨aU,hr⟩:=N6 nJ pG iE.o (by rw[W0.o];exact hGe) fX;subst aU;have HR:=J hr;subst hGe;clear hr;go_wp2_with fail;go_ret;exact⟨zs++[d],rfl,pG,nJ,HR.o,aP.o,dE.o⟩
    ·have xR:0<val ys:=gD.o.vpos;obtain⟨aU,hr⟩:=RA nJ xR pG iE.o (by rw[W0.o];exact hGe) fX;subst aU;have HR:=J hr;have kY:=J (Nat.mod_lt (val (seg us k (n+2))) xR);clear hr;subst hGe;generalize hxs:zs++[d]=xs at *;clear hxs;have bO:IntKind.u64.wrap (((q+1:Nat):Int)-1)=(q:Int):=by rw[IntKind.wrap_u64];omega
     simp only[Int.natCast_add,Int.natCast_one]at bO;go_wp2_with fail;go_loopw [13,133] (fun s13 s133 wr=>∃(i a:Nat) (zz:List Nat),i<=n+2/\s13= .int .u32 (a:Int)/\s133= .int .i64 (i:Int)/\Kc RX w wr g k us xs ys i a zz) (fun _ s133 _=>n+2-(intOf s133).toNat)
     case atStart=>exact⟨0,0,[],Nat.zero_le _,rfl,rfl,rfl,Cx,by omega,by simp[val],by rw[Mx];exact aP.o,dE.o⟩
     case round=>
      clear xi ai hfz;obtain⟨i,a,zz,hi,rfl,rfl,hat⟩:=hrel;by_cases hlt:i<n+2
      ·have aC:wr.cell? ⟨b,o+i,none⟩=some (d32 (ys.getD i 0)):=by
        have h2:=hat.2.2.2.2.2.block b fW (by have:=cW.o;simpa using this);rw[<-HC.o i (by rw[yf.o];exact hlt)];simp[World.cell?,h2]
       have aF:=J (fun t h1 h2=>Kc.step (t:=t) hat (by omega) (by omega) h1 h2);obtain⟨gy,ff,ha,hv,aw,al⟩:=hat;have ai:=aw.cell (k+i);have hfz:=aw.frozen (k+i);rw[DN _ _ _ (by rw[AK (by rw[AK (by omega)];omega),AK (by omega)];omega),G3 (by rw[AK (by omega)];omega) (by omega),OW (by omega) (by omega)]at ai;have pq:=ma.get i;have oU:=nJ.get i;clear aw hv ff gy;have gW:=J al;clear al;obtain⟨y,fm⟩:∃y,ys.getD i 0=y:=⟨_,rfl⟩;obtain⟨u,nC⟩:∃u,xs.getD i 0=u:=⟨_,rfl⟩;rw[fm]at aC pq aF;rw[nC]at ai oU aF;clear fm nC;have HS:=J (fun W=>QQ W u y a oU pq ha);have sK:=J (aF.o (u+y+a) (by omega) rfl);simp only[d32]at aC ai;go_wp2_with fail;refine(HS.o _).mono ?_
       rintro e w2 ⟨rfl,rfl⟩;go_wp2_with fail;go_roundw
       case rel=>exact⟨i+1,(u+y+a) / 4294967296,_,by omega,rfl,by go_num,sK.o⟩
       case measure=>simp[intOf];omega
      ·obtain rfl:i=n+2:=by omega
       obtain⟨gy,ff,ha,hv,aw,al⟩:=hat;have ai:=aw.cell (k+(n+2));have hfz:=aw.frozen (k+(n+2));rw[DN _ _ _ (by rw[AK (by rw[AK (by omega)];omega),AK (by omega)];omega),G3 (by rw[AK (by omega)];omega) (by omega),OW (by omega) (by omega)]at ai;have hE:=Sb ff ma gy yf.o (by omega:xs.length=n+2+1) rfl hv HR.o kY.o;have fV:=aw.set_ (k+(n+2)) (d32 ((xs.getD (n+2) 0+a) % 4294967296));have h2:=G2 (us:=over us k xs) (zs:=zz) (k:=k) (d:=(xs.getD (n+2) 0+a) % 4294967296) (by rw[AK (by omega)];omega);rw[gy]at h2;rw[Fd _ _ _ _ (by rw[AK (by rw[AK (by omega)];omega),AK (by omega)];omega),h2,PV (by omega) (by simp[gy,pG])]at fV;have oU:=nJ.get (n+2);have Uu:=E3 al (k+(n+2)) (d32 ((xs.getD (n+2) 0+a) % 4294967296));obtain⟨u,nC⟩:∃u,xs.getD (n+2) 0=u:=⟨_,rfl⟩;rw[nC]at ai oU hE fV Uu;have HE:=J hE;have aD:=J fV;have eQ:=J Uu;clear nC hE aw fV Uu h2 hv al;simp only[d32]at ai;go_wp2_with fail;go_ret;exact⟨_,rfl,by simp[gy],ff.snoc (Nat.mod_lt _ (by omega)),HE.o,aD.o,eQ.o⟩
theorem ME(B g:Nat)(w:World)(L:Value)(l:List Int)(a:Nat)(h:BI B g w L l a):Calls Tryz.prog 76 #[.pointer (some ⟨g,0,none⟩)] w fun e w'=>e= .returned (.bool (decide (a<l.length)))/\Dr w w':=by
 obtain⟨k0,k1,_,_,_⟩:=h.blk.two;obtain⟨A,c,rfl,hc,hm,_⟩:=h.arr.open;have hx:decide ((a:Int)<(l.length:Int))=decide (a<l.length):=by simp
 have HX:=J hx;clear h hc hm hx;go_enter Tryz.func76,Tryz.ntmps76;go_wp2_with fail;go_quiet (fail);go_wp2_with fail;go_ret;exact⟨by rw[<-HX.o];rfl,(Dr.refl w).drewN _⟩
theorem DU(B g:Nat)(w:World)(L:Value)(l:List Int)(a:Nat)(n:Int)(h:BI B g w L l a)(hn:1<=n)(hn2:n<=4611686018427387904):Calls Tryz.prog 78 #[.pointer (some ⟨g,0,none⟩),.int .i64 n] w fun e w'=>e= .returned (.int .i64 (Cd l a n))/\BI B g w' L l (CT l a)/\(∀B',KB B' g w w'):=by
 have H:=J h;have k0:=h.blk.two;have l9:=h.pos;have hfew:=h.few;obtain⟨A,c,rfl,hc,hm,ac⟩:=h.arr.open;have av:=h.arr.1;have HC:=J ac;have cD:=J av;clear h hc hm av ac;rcases Nat.lt_or_ge a l.length with hlt|dU
 ·have hV:Cd l a n=l[a] % n:=by unfold Cd;rw[if_pos hlt,List.getD_eq_getElem?_getD,List.getElem?_eq_getElem hlt];rfl
  have hA:CT l a=a+1:=if_pos hlt;have hb:=cD.o l[a] (List.getElem_mem hlt);obtain⟨b,o,rfl,fh,ac⟩:=HC.o (by omega);have rN:=H.o.off (by omega) b rfl;have ai:=ac a hlt;have aF:Hid (∀W:World,KB B g w W->W.cell? ⟨b,o+a,none⟩=some (.int .i64 l[a])):=J (fun W hk=>(World.cell?_of_block (a:=⟨b,o+a,none⟩) (hk.block b rN.1 rN.2)).trans ai);have HV:=J hV;have HA:=J hA;have sZ:=J (fun W=>Gb W l[a] n hb.1 hb.2 hn hn2);have aL:IntKind.i64.wrap ((a:Int)+1)=(a:Int)+1:=IntWalk.i64_in _ (by omega);have aY:IntKind.i64.wrap (a:Int)=(a:Int):=IntWalk.i64_in _ (by omega);have vK:=H.o.blk.set_ 1 (.int .i64 ((a:Int)+1));have Vv:Hid (Blk (w.setCell ⟨g,1,none⟩ (.int .i64 ((a:Int)+1))) g 129 #[.slice (some ⟨b,o,none⟩) l.length c,.int .i64 ((a:Int)+1)]):=J vK;clear hV hA ac ai hb rN vK;generalize l[a]=x at *;go_enter Tryz.func78,Tryz.ntmps78;go_wp2_with fail;go_quiet (fail);go_wp2_with fail;obtain⟨W,hW⟩:∃W,W=(w.drewN nq).setCell ⟨g,1,none⟩ (.int .i64 ((a:Int)+1)):=⟨_,rfl⟩;rw[<-hW];have HK:Hid (∀B',KB B' g w W):=J (fun B'=>by rw[hW];exact((KB.refl B' g w).drewN nq).trans (KB.set (p:=⟨g,1,none⟩) rfl _));have Ug:Blk W g 129 #[.slice (some ⟨b,o,none⟩) l.length c,.int .i64 ((a:Int)+1)]:=by
   rw[hW];exact(H.o.blk.drewN nq).set_ 1 (.int .i64 ((a:Int)+1))
  have HBW:=J Ug;have m0:=Ug.two;have ai:=aF.o W (HK.o B);clear hW Ug k0 Vv;have hlt2:(a:Int)<(l.length:Int):=by omega
  go_region_law (go_simp;go_at_call 14;refine(sZ.o _).mono ?_;rintro e w3 ⟨rfl,rfl⟩)
  all_goals
   go_wp2_with fail;go_ret;refine⟨by rw[HV.o];rfl,?_,fun B'=>(HK.o B').drewN _⟩;rw[HA.o];refine H.o.kb ((HK.o B).drewN _) ?_ (by omega)
   rw[Int.natCast_add];exact HBW.o
 ·have hV:Cd l a n=0:=if_neg (by omega);have hA:CT l a=a:=if_neg (by omega);have HV:=J hV;have HA:=J hA;have tM:¬(a:Int)<(l.length:Int):=by omega
  clear hV hA hn hn2;go_enter Tryz.func78,Tryz.ntmps78;go_wp2_with fail;go_quiet (fail);go_wp2_with fail;go_ret;refine⟨by rw[HV.o];rfl,?_,fun B'=>(KB.refl B' g w).drewN _⟩;rw[HA.o];exact H.o.kb ((KB.refl B g w).drewN _) H.o.blk H.o.pos
theorem KI(B g:Nat)(w:World)(L:Value)(l:List Int)(a:Nat)(lo hi:Int)(h:BI B g w L l a)(h1:lo<=hi)(h2: -1000000<=lo)(h3:hi<=1000000):Calls Tryz.prog 77 #[.pointer (some ⟨g,0,none⟩),.int .i64 lo,.int .i64 hi] w fun e w'=>e= .returned (.int .i64 (lo+Cd l a (hi-lo+1)))/\BI B g w' L l (CT l a)/\(∀B',KB B' g w w'):=by
 have HN:=J (DU B g w L l a (hi-lo+1) h (by omega) (by omega));have hr:=BV (l:=l) (a:=a) (n:=hi-lo+1) (by omega);have ej:IntKind.i64.wrap (hi-lo)=hi-lo:=IntWalk.i64_in _ (by omega);have aL:IntKind.i64.wrap (hi-lo+1)=hi-lo+1:=IntWalk.i64_in _ (by omega);generalize Cd l a (hi-lo+1)=x at *;have aY:IntKind.i64.wrap (lo+x)=lo+x:=IntWalk.i64_in _ (by omega);clear h;go_enter Tryz.func77,Tryz.ntmps77;go_wp2_with fail;refine HN.o.mono ?_
 rintro e w2 ⟨rfl,ht,hk⟩;have mt:=J ht;have HK:=J hk;clear ht hk;go_wp2_with fail;go_ret;exact⟨rfl,mt.o,HK.o⟩
theorem OX(w:World)(v:Value)(l:List Int)(h:De w v l)(hn:l.length<=1000000):Calls Tryz.prog 23 #[v] w fun e w'=>e= .returned (.pointer (some ⟨w.heap.size,0,none⟩))/\BI (w.heap.size+1) w.heap.size w' v l 0/\Ext w w'/\w'.heap.size=w.heap.size+1:=by
 have H:=J h;obtain⟨A,c,rfl,_⟩:=h.open;clear h;go_enter Tryz.func23,Tryz.ntmps23;go_wp2_with fail;go_ret;refine⟨rfl,⟨Blk.new w _ _,H.o.ext ((Ext.refl w).alloc _),fun h0 b hb=> ?_,by omega,Nat.zero_le _,hn⟩,(Ext.refl w).alloc _,by simp⟩;have:=H.o.lt h0 b hb;omega
theorem Di(w:World)(v:Value)(l:List Int)(h:De w v l):Calls Tryz.prog 21 #[v] w fun e w'=>e= .returned (.bool (decide (l.length<=120)))/\w=w':=by
 obtain⟨A,c,rfl,_⟩:=h.open;have hx:decide ((l.length:Int)<=120)=decide (l.length<=120):=by
  rw[decide_eq_decide];omega
 have HX:=J hx;clear h hx;go_enter Tryz.func21,Tryz.ntmps21;go_wp2_with fail;go_ret;exact⟨by rw[<-HX.o];rfl,rfl⟩
theorem MR(w:World)(n:Nat)(hn:n<256):Calls Tryz.prog 196 #[.int .u8 (n:Int)] w fun e w'=>e= .returned (.bool (Dz n))/\w=w':=by
 have e1:decide ((48:Int)<=(n:Int))=decide (48<=n):=by rw[decide_eq_decide];omega
 have e2:decide ((n:Int)<=57)=decide (n<=57):=by rw[decide_eq_decide];omega
 have H:Hid (Dz n=(decide ((48:Int)<=(n:Int)) && decide ((n:Int)<=57))):=J (by rw[e1,e2];rfl);clear e1 e2;cases b1:decide ((48:Int)<=(n:Int))<;>cases b2:decide ((n:Int)<=57)
 all_goals first|(exfalso;simp only[decide_eq_false_iff_not,decide_eq_true_eq]at b1 b2;omega)|skip
 all_goals
  rw[b1,b2]at H;go_enter Tryz.func196,Tryz.ntmps196;go_wp2_with fail;go_ret;rw[H.o];exact⟨rfl,rfl⟩
theorem GG(w:World)(n:Nat)(hn:n<256):Calls Tryz.prog 124 #[.int .u8 (n:Int)] w fun e w'=>e= .returned (.bool (Dz n))/\w=w':=by
 have e1:decide ((48:Int)<=(n:Int))=decide (48<=n):=by rw[decide_eq_decide];omega
 have e2:decide ((n:Int)<=57)=decide (n<=57):=by rw[decide_eq_decide];omega
 have H:Hid (Dz n=(decide ((48:Int)<=(n:Int)) && decide ((n:Int)<=57))):=J (by rw[e1,e2];rfl);clear e1 e2;cases b1:decide ((48:Int)<=(n:Int))<;>cases b2:decide ((n:Int)<=57)
 all_goals first|(exfalso;simp only[decide_eq_false_iff_not,decide_eq_true_eq]at b1 b2;omega)|skip
 all_goals
  rw[b1,b2]at H;go_enter Tryz.func124,Tryz.ntmps124;go_wp2_with fail;go_ret;rw[H.o];exact⟨rfl,rfl⟩
theorem G7(w:World)(n:Nat)(hn:n<256):Calls Tryz.prog 150 #[.int .u8 (n:Int)] w fun e w'=>e= .returned (.bool (Ev n))/\w=w':=by
 have e1:decide ((97:Int)<=(n:Int))=decide (97<=n):=by rw[decide_eq_decide];omega
 have e2:decide ((n:Int)<=122)=decide (n<=122):=by rw[decide_eq_decide];omega
 have e3:decide ((65:Int)<=(n:Int))=decide (65<=n):=by rw[decide_eq_decide];omega
 have e4:decide ((n:Int)<=90)=decide (n<=90):=by rw[decide_eq_decide];omega
 have H:Hid (Ev n=((decide ((97:Int)<=(n:Int)) && decide ((n:Int)<=122)) || (decide ((65:Int)<=(n:Int)) && decide ((n:Int)<=90)))):=J (by rw[e1,e2,e3,e4];rfl);clear e1 e2 e3 e4;cases b1:decide ((97:Int)<=(n:Int))<;>cases b2:decide ((n:Int)<=122)<;>cases b3:decide ((65:Int)<=(n:Int))<;>cases b4:decide ((n:Int)<=90)
 all_goals first|(exfalso;simp only[decide_eq_false_iff_not,decide_eq_true_eq]at b1 b2 b3 b4;omega)|skip
 all_goals
  rw[b1,b2,b3,b4]at H;go_enter Tryz.func150,Tryz.ntmps150;go_wp2_with fail;go_ret;rw[H.o];exact⟨rfl,rfl⟩
theorem Ir(w:World)(n:Nat)(hn:n<256):Calls Tryz.prog 122 #[.int .u8 (n:Int)] w fun e w'=>e= .returned (.bool (Ev n))/\w=w':=by
 have e1:decide ((97:Int)<=(n:Int))=decide (97<=n):=by rw[decide_eq_decide];omega
 have e2:decide ((n:Int)<=122)=decide (n<=122):=by rw[decide_eq_decide];omega
 have e3:decide ((65:Int)<=(n:Int))=decide (65<=n):=by rw[decide_eq_decide];omega
 have e4:decide ((n:Int)<=90)=decide (n<=90):=by rw[decide_eq_decide];omega
 have H:Hid (Ev n=((decide ((97:Int)<=(n:Int)) && decide ((n:Int)<=122)) || (decide ((65:Int)<=(n:Int)) && decide ((n:Int)<=90)))):=J (by rw[e1,e2,e3,e4];rfl);clear e1 e2 e3 e4;cases b1:decide ((97:Int)<=(n:Int))<;>cases b2:decide ((n:Int)<=122)<;>cases b3:decide ((65:Int)<=(n:Int))<;>cases b4:decide ((n:Int)<=90)
 all_goals first|(exfalso;simp only[decide_eq_false_iff_not,decide_eq_true_eq]at b1 b2 b3 b4;omega)|skip
 all_goals
  rw[b1,b2,b3,b4]at H;go_enter Tryz.func122,Tryz.ntmps122;go_wp2_with fail;go_ret;rw[H.o];exact⟨rfl,rfl⟩
theorem Oh(w:World)(n:Nat)(hn:n<256):Calls Tryz.prog 151 #[.int .u8 (n:Int)] w fun e w'=>e= .returned (.bool (BN n))/\w=w':=by
 have H:Hid (BN n=(Ev n || Dz n || n == 95)):=J rfl;have HL:=J (fun W=>G7 W n hn);have HD:=J (fun W=>MR W n hn);have hi:((n:Int) == 95)=(n == 95):=by rw[Bool.eq_iff_iff];simp;omega
 have HI:=J hi;clear hi;cases h1:Ev n
 ·cases h2:Dz n
  ·rw[h1]at HL H;rw[h2]at HD H;clear h1 h2;cases h3:(n == 95)
   all_goals
    have hb:=HI.o;rw[h3]at hb;rw[h3]at H;clear h3;go_enter Tryz.func151,Tryz.ntmps151;go_wp2_with fail;refine(HL.o _).mono ?_
    rintro e w1 ⟨rfl,rfl⟩;go_wp2_with fail;refine(HD.o _).mono ?_
    rintro e w1 ⟨rfl,rfl⟩;go_wp2_with fail;go_ret;rw[H.o];exact⟨rfl,rfl⟩
  ·rw[h1]at HL H;rw[h2]at HD H;clear h1 h2;go_enter Tryz.func151,Tryz.ntmps151;go_wp2_with fail;refine(HL.o _).mono ?_
   rintro e w1 ⟨rfl,rfl⟩;go_wp2_with fail;refine(HD.o _).mono ?_
   rintro e w1 ⟨rfl,rfl⟩;go_wp2_with fail;go_ret;rw[H.o];exact⟨rfl,rfl⟩
 ·rw[h1]at HL H;clear h1;go_enter Tryz.func151,Tryz.ntmps151;go_wp2_with fail;refine(HL.o _).mono ?_
  rintro e w1 ⟨rfl,rfl⟩;go_wp2_with fail;go_ret;rw[H.o];exact⟨rfl,rfl⟩
end Big
end Go.Proofs.YtkoaogkknnelaaaGreatDoor
