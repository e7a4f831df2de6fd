import Derived.Test.YtkoaogkknnelaaaGreatDoorM6
import Derived.Test.YtkoaogkknnelaaaGreatDoorKnuth
import Derived.Deep.CutBlock
import Derived.Deep.RegionLaw
set_option linter.unusedVariables false
set_option linter.unusedSimpArgs false
set_option maxHeartbeats 1000000
set_option maxRecDepth 100000
namespace Go.Proofs.YtkoaogkknnelaaaGreatDoor
namespace Big
open Lib renaming hid → J
open Go.RowKit
theorem Hc(a b:Nat)(ha:a<4294967296)(hb:b<4294967296):bits .and .u32 (a:Int) (b:Int)=((a &&& b:Nat):Int):=by
 have hx:a &&& b<2 ^ 32:=Nat.and_lt_two_pow _ (by omega);have h1:(BitVec.ofInt 32 (a:Int)).toNat=a:=by
  rw[BitVec.ofInt_natCast,BitVec.toNat_ofNat];exact qbp (by omega)
 have h2:(BitVec.ofInt 32 (b:Int)).toNat=b:=by
  rw[BitVec.ofInt_natCast,BitVec.toNat_ofNat];exact qbp (by omega)
 show IntKind.u32.wrap ((BitVec.ofInt 32 (a:Int) &&& BitVec.ofInt 32 (b:Int)).toNat:Int)=_;rw[BitVec.toNat_and,h1,h2,IntKind.wrap_u32];omega
theorem IF(a b:Nat)(ha:a<4294967296)(hb:b<4294967296):bits .or .u32 (a:Int) (b:Int)=((a ||| b:Nat):Int):=by
 have hx:a ||| b<2 ^ 32:=Nat.or_lt_two_pow (by omega) (by omega)
 have h1:(BitVec.ofInt 32 (a:Int)).toNat=a:=by
  rw[BitVec.ofInt_natCast,BitVec.toNat_ofNat];exact qbp (by omega)
 have h2:(BitVec.ofInt 32 (b:Int)).toNat=b:=by
  rw[BitVec.ofInt_natCast,BitVec.toNat_ofNat];exact qbp (by omega)
 show IntKind.u32.wrap ((BitVec.ofInt 32 (a:Int) ||| BitVec.ofInt 32 (b:Int)).toNat:Int)=_;rw[BitVec.toNat_or,h1,h2,IntKind.wrap_u32];omega
theorem Fm(a b:Nat)(ha:a<4294967296)(hb:b<4294967296):bits .xor .u32 (a:Int) (b:Int)=((a ^^^ b:Nat):Int):=by
 have hx:a ^^^ b<2 ^ 32:=Nat.xor_lt_two_pow (by omega) (by omega);have h1:(BitVec.ofInt 32 (a:Int)).toNat=a:=by
  rw[BitVec.ofInt_natCast,BitVec.toNat_ofNat];exact qbp (by omega)
 have h2:(BitVec.ofInt 32 (b:Int)).toNat=b:=by
  rw[BitVec.ofInt_natCast,BitVec.toNat_ofNat];exact qbp (by omega)
 show IntKind.u32.wrap ((BitVec.ofInt 32 (a:Int) ^^^ BitVec.ofInt 32 (b:Int)).toNat:Int)=_;rw[BitVec.toNat_xor,h1,h2,IntKind.wrap_u32];omega
theorem Td{n:Nat}(h:n<4294967296):n / 2147483648=(n.testBit 31).toNat:=by
 rw[Nat.testBit_eq_decide_div_mod_eq,show (2:Nat) ^ 31=2147483648 from rfl];have:n / 2147483648<2:=by omega
 rcases qam (n / 2147483648) 1 with h1|h1
 ·have:n / 2147483648=0:=by omega
  rw[this];rfl
 ·have:n / 2147483648=1:=by omega
  rw[this];rfl
theorem Lg{n:Nat}(h:n<4294967296):n.testBit 31=decide (2147483648<=n):=by
 rw[Nat.testBit_eq_decide_div_mod_eq,show (2:Nat) ^ 31=2147483648 from rfl];rw[decide_eq_decide];omega
theorem SM{x y b d b':Nat}(hx:x<4294967296)(hy:y<4294967296)(hb:b<=1)(hd:d<4294967296)(gn:b'<=1)(h:x+4294967296*b'=d+y+b):
  bits .or .u32 (bits .and .u32 (bits .xor .u32 IntKind.u32.max (x:Int)) (y:Int)) (bits .and .u32 (bits .xor .u32 IntKind.u32.max (bits .xor .u32 (x:Int) (y:Int))) (((x:Int)-(y:Int)-(b:Int)) % 4294967296)) / 2147483648=((b':Nat):Int):=by
 have e1:((x:Int)-(y:Int)-(b:Int)) % 4294967296=((d:Nat):Int):=by omega
 have e2:IntKind.u32.max=((4294967295:Nat):Int):=by rfl
 have l1:x ^^^ y<4294967296:=Nat.xor_lt_two_pow (n:=32) hx hy;have l2:4294967295 ^^^ x<4294967296:=Nat.xor_lt_two_pow (n:=32) (by decide) hx;have l3:4294967295 ^^^ (x ^^^ y)<4294967296:=Nat.xor_lt_two_pow (n:=32) (by decide) l1;have l4:(4294967295 ^^^ x) &&& y<4294967296:=Nat.and_lt_two_pow (n:=32) _ hy;have l5:(4294967295 ^^^ (x ^^^ y)) &&& d<4294967296:=Nat.and_lt_two_pow (n:=32) _ hd;have l6:(4294967295 ^^^ x) &&& y ||| (4294967295 ^^^ (x ^^^ y)) &&& d<4294967296:=Nat.or_lt_two_pow (n:=32) l4 l5
 rw[e1,e2,Fm _ _ (by decide) hx,Fm _ _ hx hy,Fm _ _ (by decide) l1,Hc _ _ l2 hy,Hc _ _ l3 hd,IF _ _ l4 l5];have key:((4294967295 ^^^ x) &&& y ||| (4294967295 ^^^ (x ^^^ y)) &&& d) / 2147483648=b':=by
  rw[Td l6,Nat.testBit_or,Nat.testBit_and,Nat.testBit_and,Nat.testBit_xor,Nat.testBit_xor,Nat.testBit_xor,Lg hx,Lg hy,Lg hd,Lg (show 4294967295<4294967296 by decide)];by_cases hX:2147483648<=x<;>by_cases hY:2147483648<=y<;>by_cases hD:2147483648<=d<;>simp[hX,hY,hD]<;>omega
 omega
theorem Rm(w:World)(x y c:Nat)(hx:x<4294967296)(hy:y<4294967296)(hc:c<=1):
  Calls Tryz.prog 305 #[.int .u32 (x:Int),.int .u32 (y:Int),.int .u32 (c:Int)] w fun e w'=>e= .returned (.tuple #[.int .u32 (((x+y+c) % 4294967296:Nat):Int),.int .u32 (((x+y+c) / 4294967296:Nat):Int)])/\w=w':=by
 go_enter Tryz.func305,Tryz.ntmps305;go_wp2_with fail;go_ret2;exact⟨rfl,rfl⟩
theorem Jk(w:World)(n:Nat)(hn:n<=1048576):
  Calls Tryz.prog 303 #[.int .i64 (n:Int)] w fun e w'=>e= .returned (.int .i64 (n:Int))/\w=w':=by
 go_enter Tryz.func303,Tryz.ntmps303;go_wp2_with fail;go_ret;exact⟨rfl,rfl⟩
theorem Ku(w:World)(x y b:Nat)(hx:x<4294967296)(hy:y<4294967296)(hb:b<=1):
  Calls Tryz.prog 304 #[.int .u32 (x:Int),.int .u32 (y:Int),.int .u32 (b:Int)] w fun e w'=>∃d b':Nat,e= .returned (.tuple #[.int .u32 (d:Int),.int .u32 (b':Int)])/\d<4294967296/\b'<=1/\x+4294967296*b'=d+y+b/\w=w':=by
 obtain⟨d,b',hd,gn,h⟩:∃d b':Nat,d<4294967296/\b'<=1/\x+4294967296*b'=d+y+b:=by
  by_cases h:x<y+b
  ·exact⟨x+4294967296-(y+b),1,by omega,by omega,by omega⟩
  ·exact⟨x-(y+b),0,by omega,by omega,by omega⟩
 have H:=J h;have hq:=SM hx hy hb hd gn h;have e1:((x:Int)-(y:Int)-(b:Int)) % 4294967296=((d:Nat):Int):=by omega
 have E:=J e1;have E2:Hid (((((x:Int)-(y:Int)) % 4294967296)-(b:Int)) % 4294967296=((d:Nat):Int)):=J (by omega);have Q:=J hq;have hu:(IntKind.u32.signed=true)=False:=by simp[IntKind.signed]
 clear h hq e1;go_enter Tryz.func304,Tryz.ntmps304;go_wp2_with fail;go_ret2;rw[E.o]at Q;refine⟨d,b',?_,hd,gn,H.o,rfl⟩;simp only[E.o,E2.o,Q.o];rfl
def Ny(w0 wr:World)(xs:List Nat)(d s L k:Nat)(zs:List Nat)(c:Nat):Prop:=
 zs.length=k/\Ok zs/\c<2 ^ s/\val zs+4294967296 ^ k*c=val (xs.take k)*2 ^ s/\
  Blk wr w0.heap.size 183 (cells (List.replicate d 0++(zs++c::List.replicate (L-k) 0)))/\Ext w0 wr
theorem Ny.step{w0 wr:World}{xs zs:List Nat}{d s L k c y:Nat}(h:Ny w0 wr xs d s L k zs c)(hk:k<L)(hs:s<=31)(an:Ok xs)(hy:y=xs.getD k 0*2 ^ s):
  Ny w0 ((wr.setCell ⟨w0.heap.size,k+d,none⟩ (d32 (c+y % 4294967296))).setCell ⟨w0.heap.size,k+d+1,none⟩ (d32 (y / 4294967296))) xs d s L (k+1) (zs++[c+y % 4294967296]) (y / 4294967296):=by
 obtain⟨hl,fg,hc,hv,hb,he⟩:=h;obtain⟨p1,p2,p3⟩:=Kv (an.get k) hs;rw[<-hy]at p1 p2 p3;have br:=Mi hs hc p3 (qbl _ (by omega));refine⟨by simp[hl],fg.snoc br,p1,RI hl hv hy,?_,(he.setCell (qad _) _).setCell (qad _) _⟩;have h1:=(hb.set_ (k+d) (d32 (c+y % 4294967296))).set_ (k+d+1) (d32 (y / 4294967296));rw[CI,CI]at h1;have e1:(List.replicate d 0++(zs++c::List.replicate (L-k) 0)).set (k+d) (c+y % 4294967296)=List.replicate d 0++(zs++(c+y % 4294967296)::List.replicate (L-k) 0):=by
  rw[qbk _ _ (by simp),qaL,show k+d-d=zs.length by omega,qbk _ _ (qad _),qaX,qbF]
 have e2:(List.replicate d 0++(zs++(c+y % 4294967296)::List.replicate (L-k) 0)).set (k+d+1) (y / 4294967296)=List.replicate d 0++(zs++[c+y % 4294967296]++(y / 4294967296)::List.replicate (L-(k+1)) 0):=by
  rw[qbk _ _ (by simp;omega),qaL,show k+d+1-d=zs.length+1 by omega,qbk _ _ (by omega),qbq,List.set_cons_succ,show L-k=(L-(k+1))+1 by omega,qbS,qbF,qan];rfl
 rwa [e1,e2]at h1
theorem Tj{d k c L:Nat}{zs:List Nat}(hl:zs.length=k):(List.replicate d 0++(zs++c::List.replicate (L-k) 0)).getD (k+d) 0=c:=by
 rw[qac,qao (by simp),qaL,show k+d-d=zs.length by omega,qao (qad _),qaX];rfl
theorem PV(L d:Nat):zeros (L+d+1)=cells (List.replicate d 0++([]++0::List.replicate (L-0) 0)):=by
 rw[Fy,qaG,Nat.sub_zero,<-qbS,List.replicate_append_replicate,show d+(L+1)=L+d+1 by omega]
theorem O9(w:World)(v:Value)(xs:List Nat)(n:Nat)(h:Arr w v xs)(hl:xs.length<=268435456)(hn:n<=1048576):
  Calls Tryz.prog 293 #[v,.int .i64 (n:Int)] w fun e w'=>∃v',e= .returned v'/\Own w.heap.size w' v' (Af (val xs*2 ^ n))/\Ext w w':=by
 have HS:=J (Ee w v xs h);have hle:=size_le xs;have HA:=J h;have HT:=J (Dt h.ok);have HP:=J (Jk w n hn);obtain⟨an,A,cap,rfl,eA,gY,aa⟩:=h.open;have HC:=J aa;have HM:=J gY;obtain⟨d,s,hd,hs,hnd⟩:∃d s,d<=32768/\s<=31/\n=32*d+s:=⟨n / 32,n % 32,by omega,by omega,by omega⟩;have aW:=J hnd;have hq:(n:Int) / 32=(d:Int):=by omega
 have hr:(n:Int) % 32=(s:Int):=by omega
 clear h aa gY hnd;rcases qar (size xs) with h0|h0
 ·have hz:=Hq h0;rw[hz,Nat.zero_mul];rw[h0]at HS;clear hz h0 hle hq hr;go_enter Tryz.func293,Tryz.ntmps293;go_wp2_with fail;refine HP.o.mono ?_
  rintro e w' ⟨rfl,rfl⟩;go_wp2_with fail;refine HS.o.mono ?_
  rintro e w' ⟨rfl,rfl⟩;go_wp2_with fail;go_ret;exact⟨_,rfl,Own.none_ _ _,Ext.refl _⟩
 ·have HV:Hid (val (xs.take (size xs))=val xs):=J (by rw[HT.o,Ah]);generalize size xs=L at *;have hL0:((L:Int) == 0)=false:=by rw[beq_eq_false_iff_ne];omega
  have dF:=Ef (L+d+1) (by omega);simp only[qcy,Int.natCast_one]at dF;have ue:=J (Jj s hs);go_enter Tryz.func293,Tryz.ntmps293;go_wp2_with fail;refine HP.o.mono ?_
  rintro e w' ⟨rfl,rfl⟩;go_wp2_with fail;refine HS.o.mono ?_
  rintro e w' ⟨rfl,rfl⟩;go_wp2_with fail;clear dF;go_loopw [33] (fun i wr=>∃(k:Nat) (zs:List Nat) (c:Nat),k<=L/\i= .int .i64 k/\Ny w wr xs d s L k zs c) (fun i _=>L-(intOf i).toNat)
  case atStart=>exact⟨0,[],0,qal _,rfl,rfl,CT,qbB (by omega),by simp[val],by rw[<-PV];exact Blk.new _ _ _,(Ext.refl w).alloc _⟩
  case round=>
   obtain⟨k,zs,c,hk,rfl,hat⟩:=hrel;by_cases hlt:k<L
   ·obtain⟨b,o,rfl,hb,aa⟩:=HC.o (by omega);have cI:=J (fun y h=>Ny.step (y:=y) hat hlt hs an h);obtain⟨gF,fg,hc,hv,bF,ai⟩:=hat;have hx:=(ai.cell hb).trans (aa k (by omega));clear aa;have af:=bF.cell (k+d);have sO:=bF.cell (k+d+1);have hfz:=bF.frozen (k+d);have hfz2:=bF.frozen (k+d+1);rw[CK _ _ (by simp;omega),Tj gF]at af;rw[CK _ _ (by simp;omega)]at sO;obtain⟨dV,dM,ot⟩:=Kv (an.get k) hs;have lV:=TT hc ot;have br:=Mi hs hc ot (qbl _ (by omega));have fp:=an.get k;have sR:=ue.o;generalize (List.replicate d 0++(zs++c::List.replicate (L-k) 0)).getD (k+d+1) 0=z at sO;clear bF hv fg gF ot;have HX:=J ai;clear ai;obtain⟨x,hxe⟩:∃x,xs.getD k 0=x:=⟨_,rfl⟩;rw[hxe]at hx fp cI dV dM lV br;clear hxe;have tR:(2:Int) ^ s=((2 ^ s:Nat):Int):=by simp
    obtain⟨P,hP⟩:∃P,2 ^ s=P:=⟨_,rfl⟩;rw[hP]at tR dV dM lV br hc sR cI;clear hP;have kT:(x:Int)*(P:Int)=((x*P:Nat):Int):=by simp
    have aP:=J (cI.o _ rfl);obtain⟨y,hy⟩:∃y,x*P=y:=⟨_,rfl⟩;rw[hy]at kT dV dM lV br aP;clear hy cI;have kX:bits .or .u32 (c:Int) ((y:Int) % 4294967296)=((c+y % 4294967296:Nat):Int):=by
     rw[show (y:Int) % 4294967296=((y % 4294967296:Nat):Int) by omega,IF _ _ (by omega) (by omega),lV]
    clear lV;simp only[d32]at hx af sO;go_wp2_with fail;go_roundw
    case rel=>exact⟨k+1,_,_,by omega,by go_num,aP.o⟩
    case measure=>simp[intOf];omega
   ·obtain rfl:k=L:=by omega
    obtain⟨gF,fg,hc,hv,bF,ai⟩:=hat;rw[qaX,qci]at bF;have sR:=ue.o;have VL:c<4294967296:=by omega
    have hall:Ok (List.replicate d 0++(zs++[c])):=(Ok.zeros d).append (fg.snoc VL);have ak:(List.replicate d 0++(zs++[c])).length=k+d+1:=by simp;omega
    have bP:Own w.heap.size wr (.slice (some ⟨w.heap.size,0,none⟩) (k+d+1) (k+d+1)) (List.replicate d 0++(zs++[c])):=by
     have h3:=Own.block (B:=w.heap.size) hall bF (qad _) (by rw[ak];omega)
     rwa [ak]at h3
    have hval:val (List.replicate d 0++(zs++[c]))=val xs*2 ^ n:=by
     rw[aW.o];refine Ti d s _ _ ?_
     rw[Cu,gF,hv,HV.o]
    have fU:=J (Ee _ _ _ bP.arr);have hsz:=size_le (List.replicate d 0++(zs++[c]));obtain⟨A1,c1,hv1,HO⟩:=bP.take (size (List.replicate d 0++(zs++[c]))) hsz;rw[Dt bP.ok,hval]at HO;rw[ak]at hsz;injection hv1 with hv1 hv3 hv2
    clear hv3;subst hv1;subst hv2;have HO:=J HO;generalize size (List.replicate d 0++(zs++[c]))=sz at *;clear hval bP ak hall bF hv hc gF;go_wp2_with fail;refine fU.o.mono ?_
    rintro e w' ⟨rfl,rfl⟩;go_wp2_with fail;go_ret;exact⟨_,rfl,HO.o,ai⟩
theorem DC(xs:List Nat)(RX:Array Value)(i:Nat)(h:i<xs.length):(cells xs++RX)[i]? =some (d32 (xs.getD i 0)):=by
 rw[Array.getElem?_append_left (by rw[I5];exact h),CK xs i h]
theorem E9(xs:List Nat)(RX:Array Value)(i y:Nat)(h:i<xs.length):(cells xs++RX).setIfInBounds i (d32 y)=cells (xs.set i y)++RX:=by
 rw[<-CI];apply qcg;simp only[Array.toList_setIfInBounds,Array.toList_append];rw[List.set_append_left _ _ (by simpa [cells] using h)]
theorem Arr.kept{w w':World}{g:Nat}{v:Value}{ys:List Nat}(h:Arr w v ys)(hg:w.grownBy w' (some g))(hne:∀b o n c,v= .slice (some ⟨b,o,none⟩) n c->b≠g):Arr w' v ys:=by
 obtain⟨an,A,c,rfl,hc,hm,aa⟩:=h.open;refine Arr.mk an hc hm fun hp=> ?_
 obtain⟨b,o,rfl,hb,h1⟩:=aa hp;refine⟨b,o,rfl,qaj hb hg.size,fun j hj=> ?_⟩;have h2:=hg.block b hb (by simpa using hne b o _ _ rfl);rw[<-h1 j hj];simp[World.cell?,h2]
structure Dr (w w':World):Prop where
 heap:w'.heap=w.heap
 grown:∀g,w.grownBy w' g
theorem Dr.refl(w:World):Dr w w:=⟨rfl,fun _=>⟨rfl,rfl,rfl,qad _,fun _ _ _=>rfl⟩⟩
theorem Dr.drewN{w w':World}(h:Dr w w')(n:Nat):Dr w (w'.drewN n):=⟨h.heap,fun g=>⟨(h.grown g).os,(h.grown g).tape,(h.grown g).output,(h.grown g).size,(h.grown g).block⟩⟩
theorem Dr.cell{w w':World}(h:Dr w w')(p:Addr):w'.cell? p=w.cell? p:=by
 have:=h.heap;simp[World.cell?,this]
theorem Dr.blk{w w':World}{g:Nat}{t:TypeId}{cs:Array Value}(h:Dr w w')(hb:Blk w g t cs):Blk w' g t cs:=by
 unfold Blk;rw[h.heap];exact hb
def J6(RX:Array Value)(w0 wr:World)(g k n:Nat)(us ys:List Nat)(G i c b:Nat)(zs:List Nat):Prop:=
 zs.length=i/\Ok zs/\c<4294967296/\b<=1/\val zs+G*val (ys.take i)=val ((seg us k n).take i)+4294967296 ^ i*(c+b)/\
  Blk wr g 183 (cells (over us k zs)++RX)/\w0.grownBy wr (some g)
theorem ET{w0 wr:World}{g:Nat}(h:w0.grownBy wr (some g))(i:Nat)(u:Value):w0.grownBy (wr.setCell ⟨g,i,none⟩ u) (some g):=
 ⟨h.os,h.tape,h.output,by simpa using h.size,fun b hb hne=>by
  rw[<-h.block b hb hne];exact Below.heap_setCell wr ⟨g,i,none⟩ u b (by simpa using hne)⟩
theorem J6.step {RX:Array Value} {w0 wr:World} {g k n G i c b t d b':Nat} {us ys zs:List Nat} (h:J6 RX w0 wr g k n us ys G i c b zs) (hi:i<n) (hk:k+n+1<=us.length)
  (ht:t=c+G*ys.getD i 0) (UN:t<18446744073709551616) (hd:us.getD (k+i) 0+4294967296*b'=d+t % 4294967296+b) (oQ:d<4294967296) (gn:b'<=1):
  J6 RX w0 (wr.setCell ⟨g,k+i,none⟩ (d32 d)) g k n us ys G (i+1) (t / 4294967296) b' (zs++[d]):=by
 obtain⟨hl,an,hc,hb,hv,ax,hgr⟩:=h;refine⟨by simp[hl],an.snoc oQ,qbx (by omega),gn,QB hl hv ht (by rw[GR (by omega)];exact hd),?_,ET hgr _ _⟩;have h1:=ax.set_ (k+i) (d32 d);have h2:=GW (us:=us) (zs:=zs) (k:=k) (d:=d) (by omega);rw[hl]at h2;rw[E9 _ _ _ _ (by simp[over];omega),h2]at h1;exact h1
def Kb(RX:Array Value)(w0 wr:World)(g k:Nat)(us xs ys:List Nat)(i a:Nat)(zz:List Nat):Prop:=
 zz.length=i/\Ok zz/\a<=1/\val zz+4294967296 ^ i*a=val (xs.take i)+val (ys.take i)/\Blk wr g 183 (cells (over (over us k xs) k zz)++RX)/\w0.grownBy wr (some g)
theorem Kb.step {RX:Array Value} {w0 wr:World} {g k i a t:Nat} {us xs ys zz:List Nat} (h:Kb RX w0 wr g k us xs ys i a zz) (hi:k+i<us.length) (hk:k+xs.length<=us.length) (UN:t<8589934592)
  (ht:t=xs.getD i 0+ys.getD i 0+a):Kb RX w0 (wr.setCell ⟨g,k+i,none⟩ (d32 (t % 4294967296))) g k us xs ys (i+1) (t / 4294967296) (zz++[t % 4294967296]):=by
 obtain⟨hl,an,ha,hv,ax,hgr⟩:=h;refine⟨by simp[hl],an.snoc (qbl _ (by omega)),by omega,Rk hl hv (by omega),?_,ET hgr _ _⟩;have h1:=ax.set_ (k+i) (d32 (t % 4294967296));have h2:=GW (us:=over us k xs) (zs:=zz) (k:=k) (d:=t % 4294967296) (by rw[AJ hk];omega);rw[hl]at h2;rw[E9 _ _ _ _ (by simp[over];omega),h2]at h1;exact h1
theorem PR(w:World)(x t b:Nat)(hx:x<4294967296)(hb:b<=1):
  Calls Tryz.prog 304 #[.int .u32 (x:Int),.int .u32 ((t:Int) % 4294967296),.int .u32 (b:Int)] w fun e w'=>∃d b':Nat,e= .returned (.tuple #[.int .u32 (d:Int),.int .u32 (b':Int)])/\d<4294967296/\b'<=1/\x+4294967296*b'=d+t % 4294967296+b/\w=w':=
 Ku w x (t % 4294967296) b hx (qbl _ (by omega)) hb
theorem Q8 (RX:Array Value) (w:World) (g k c n:Nat) (us:List Nat) (v:Value) (ys:List Nat) (hb:Blk w g 183 (cells us++RX)) (an:Ok us) (hn:ys.length=n+2) (hk:k+(n+2)+1<=us.length) (hm:us.length<=1073741824)
  (_hc:n+3<=c) (Wk:c<=maxLen) (hv:Arr w v ys) (hne:∀b o m c,v= .slice (some ⟨b,o,none⟩) m c->b≠g) (vT:1<=ys.getD (n+1) 0) (hlt:val (seg us k (n+2))<val ys*4294967296):
  Calls Tryz.prog 294 #[.slice (some ⟨g,k,none⟩) (n+3:Nat) c,v] w fun e w'=>∃zs,e= .returned (.int .u32 ((val (seg us k (n+2)) / val ys:Nat):Int))/\zs.length=n+3/\Ok zs/\val zs=val (seg us k (n+2)) % val ys/\
   Blk w' g 183 (cells (over us k zs)++RX)/\w.grownBy w' (some g):=by
 have HV:=J hv;obtain⟨mI,A,cap,rfl,eA,gY,oS⟩:=hv.open;obtain⟨b,o,rfl,fA,aa⟩:=oS (by omega);clear oS;have fF:=J (hne b o _ _ rfl);have HC:=J aa;have HB:=J hb;have dL:=hb.cell (k+(n+2));have dT:=hb.cell (k+(n+1));have nx:=hb.cell (k+n);rw[DC _ _ _ (by omega)]at dL dT nx;have rl:=aa (n+1) (by omega);have hy0:=aa n (by omega);have vF:=an.get (k+(n+2));have vG:=an.get (k+(n+1));have sE:=an.get (k+n);have UA:=mI.get (n+1);have sC:=mI.get n;have gI:Hid (Knuth.Setup 4294967296 (val (seg us k (n+2))) (val ys) (ys.getD (n+1) 0) (ys.getD n 0) (4294967296 ^ n) (us.getD (k+(n+2)) 0*4294967296+us.getD (k+(n+1)) 0) (us.getD (k+n) 0)):=J (by
  have e1:=BK ys n;have e2:=BK (seg us k (n+2)) n;rw[Br,Br,qaS (by omega),val]at e1;rw[Br,Br,Br,qaS (by rw[I7 (by omega)];omega),val,GR (by omega),GR (by omega),GR (by omega)]at e2;refine⟨⟨_,B3 mI n,?_⟩,⟨_,B3 (an.seg k (n+2)) n,?_⟩,hlt,vT,sC,sE,Ji n⟩
  ·rw[e1,qbb (4294967296 ^ n),qck]
   congr 2
   omega
  ·rw[e2,qbb (4294967296 ^ n),qck,show k+(n+1+1)=k+(n+2) by omega]
   congr 2
   omega)
 obtain⟨x2,al⟩:∃x,us.getD (k+(n+2)) 0=x:=⟨_,rfl⟩;obtain⟨x1,ar⟩:∃x,us.getD (k+(n+1)) 0=x:=⟨_,rfl⟩;obtain⟨x0,hx0⟩:∃x,us.getD (k+n) 0=x:=⟨_,rfl⟩;obtain⟨y1,vC⟩:∃x,ys.getD (n+1) 0=x:=⟨_,rfl⟩;obtain⟨y0,vD⟩:∃x,ys.getD n 0=x:=⟨_,rfl⟩;rw[al]at dL vF gI;rw[ar]at dT vG gI;rw[hx0]at nx sE gI;rw[vC]at rl UA gI vT;rw[vD]at hy0 sC gI;clear al ar hx0 vC vD;have lV:=Of x2 x1 vF vG;have hT:x2*4294967296+x1<18446744073709551616:=by omega
 obtain⟨T,V2⟩:∃T,x2*4294967296+x1=T:=⟨_,rfl⟩;rw[V2]at lV hT gI;have zH:=J V2;have zQ:=J hn;have bD:=J hlt;unfold maxLen at Wk;rw[hn]at eA ⊢;clear V2 hb aa hv hlt hne hn;simp only[d32]at dL dT nx rl hy0;have aB:IntKind.i64.wrap ((n:Int)+2-1)=(n:Int)+1:=by rw[IntWalk.i64_in _ (by omega)];omega
 have aY:IntKind.i64.wrap ((n:Int)+2-2)=(n:Int):=by rw[IntWalk.i64_in _ (by omega)];omega
 have rr:((n:Int)+1).toNat=n+1:=by omega
 have fI:((n:Int)+2).toNat=n+2:=by omega
 have h01:(0:Int)<=(n:Int)+1:=by omega
 have h02:(0:Int)<=(n:Int)+2:=by omega
 have WA:=J gI.o.q_first;obtain⟨q,hq⟩:∃q,val (seg us k (n+2)) / val ys=q:=⟨_,rfl⟩;have pm:=J (fun G R=>gI.o.lower (g:=G) (r:=R));have cT:=J (fun G R=>gI.o.done (g:=G) (r:=R));have jW:=J (fun G R=>gI.o.broken (g:=G) (r:=R));have jD:=J (fun G=>gI.o.near (g:=G));rw[hq]at WA pm jD ⊢;have YN:=J hq;clear hq;go_enter Tryz.func294,Tryz.ntmps294;go_wp2_with fail;go_quiet (fail);go_wp2_with fail;have Zm:(0:Int)<(y1:Int):=by omega
 obtain⟨Q,hQ⟩:∃Q,T / y1=Q:=⟨_,rfl⟩;obtain⟨R,hR⟩:∃R,T % y1=R:=⟨_,rfl⟩;have hQT:Q<=T:=by rw[<-hQ];exact Nat.div_le_self _ _
 have hRy:R<y1:=by rw[<-hR];exact qbl _ (by omega)
 have YM:Hid (Q*y1+R=T):=J (by rw[<-hQ,<-hR];exact qce T y1);have hTq:IntKind.u64.wrap ((T:Int) / (y1:Int))=(Q:Int):=by
  rw[<-Int.natCast_ediv,hQ,IntKind.wrap_u64];omega
 have Yj:(T:Int) % (y1:Int)=(R:Int):=by rw[<-Int.natCast_emod,hR]
 have HQ:Hid (q<=Q):=J (by
  rw[<-hQ];exact(Nat.le_div_iff_mul_le (by omega)).2 WA.o)
 clear hQ hR;go_quiet (fail);have cS:=J Yj;clear hTq Yj lV
 go_upto_block 0 with fail
 go_cut [7,8] from 47 to 82 (fun s7 s8 wx=>∃G R:Nat,s7= .int .u64 (G:Int)/\s8= .int .u64 (R:Int)/\G<4294967296/\q<=G/\G<=q+1/\Dr w wx)
 case first=>
  go_wp2_with fail;go_loopw [7,8] (fun s7 s8 wr=>∃G R:Nat,s7= .int .u64 (G:Int)/\s8= .int .u64 (R:Int)/\Hid (G*y1+R=T)/\G<=Q/\q<=G/\R<4294967296/\Dr w wr) (fun s7 _ _=>(intOf s7).toNat)
  case atStart=>exact⟨Q,R,rfl,by rw[cS.o],YM,qad _,HQ.o,by omega,(Dr.refl _).drewN _ |>.drewN _⟩
  case round=>
   obtain⟨G,R',rfl,rfl,f7,hGQ,zl,hR',nm⟩:=hrel;have Zy:=(nm.cell _).trans dL;have Zz:=(nm.cell _).trans dT;have ZA:=(nm.cell _).trans nx;have Zn:=(nm.cell _).trans rl;have Zo:=(nm.cell _).trans hy0;rcases qam G 4294967296 with hG|hG
   ·have av:(((G:Int) / 4294967296) != 0)=false:=by rw[bne_eq_false_iff_eq];omega
    have hb2:(((G:Int) / 4294967296) == 0)=true:=by rw[beq_iff_eq];omega
    have U1:=Of R' x0 hR' sE;have om:=IP hG sC;have tR:(G:Int)*(y0:Int)=((G*y0:Nat):Int):=by simp
    have dR:=J (fun h=>pm.o G R' f7.o zl (.inr h));have nP:=J (fun h=>jD.o G hG (cT.o G R' f7.o h));have hSm:R'*4294967296+x0<18446744073709551616:=by omega
    obtain⟨P,hP⟩:∃P,G*y0=P:=⟨_,rfl⟩;obtain⟨S,hS⟩:∃S,R'*4294967296+x0=S:=⟨_,rfl⟩;rw[hP]at tR om dR nP;rw[hS]at U1 hSm dR nP;clear hP hS;rcases qam S P with xD|xD
    ·have h1:=dR.o xD;have hd:decide (S<P)=true:=by simpa using xD
     have bE:decide ((S:Int)<(P:Int))=true:=by simpa using xD
     obtain⟨G',tS⟩:∃G',G=G'+1:=⟨G-1,by omega⟩;have xe:(G:Int)-1=(G':Int):=by omega
     have W4:=J tS;have nN:Hid (G'*y1+(R'+y1)=T):=J (by
      have:=f7.o;rw[tS,qbm,qbC]at this;omega)
     have WP:Hid (G'<=Q):=J (by omega);have xS:Hid (q<=G'):=J (by omega);clear tS;rcases qam (R'+y1) 4294967296 with hr|hr
     ·have hc1:(((R':Int)+(y1:Int)) / 4294967296 != 0)=false:=by rw[bne_eq_false_iff_eq];omega
      have dG:(((R':Int)+(y1:Int)) / 4294967296 == 0)=true:=by rw[beq_iff_eq];omega
      go_wp2_with fail;go_quiet (fail);go_wp2_with fail;go_roundw
      case rel=>exact⟨G',R'+y1,rfl,by go_num,nN,WP.o,xS.o,hr,nm.drewN _⟩
      case measure=>have:=W4.o;simp[intOf];omega
     ·have hc1:(((R':Int)+(y1:Int)) / 4294967296 != 0)=true:=by rw[bne_iff_ne];omega
      have dG:(((R':Int)+(y1:Int)) / 4294967296 == 0)=false:=by rw[beq_eq_false_iff_ne];omega
      have HE:Hid (G'<4294967296/\G'<=q+1):=J (by
       obtain⟨e1,e2⟩:=jW.o G' (R'+y1) nN.o hr;exact⟨e1,jD.o G' e1 (cT.o G' (R'+y1) nN.o e2)⟩)
      go_wp2_with fail;go_quiet (fail);go_wp2_with fail;go_meet;exact⟨G',R'+y1,rfl,by go_num,HE.o.1,xS.o,HE.o.2,nm.drewN _⟩
    ·have hd:decide (S<P)=false:=by simp;omega
     have bE:decide ((S:Int)<(P:Int))=false:=by simp;omega
     have HE:=J (nP.o xD);go_wp2_with fail;go_quiet (fail);go_wp2_with fail;go_meet;exact⟨G,R',rfl,rfl,hG,zl,HE.o,nm.drewN _⟩
   ·have h1:=pm.o G R' f7.o zl (.inl hG);have av:(((G:Int) / 4294967296) != 0)=true:=by rw[bne_iff_ne];omega
    have hb2:(((G:Int) / 4294967296) == 0)=false:=by rw[beq_eq_false_iff_ne];omega
    obtain⟨G',tS⟩:∃G',G=G'+1:=⟨G-1,by omega⟩;have xe:(G:Int)-1=(G':Int):=by omega
    have W4:=J tS;have nN:Hid (G'*y1+(R'+y1)=T):=J (by
     have:=f7.o;rw[tS,qbm,qbC]at this;omega)
    have WP:Hid (G'<=Q):=J (by omega);have xS:Hid (q<=G'):=J (by omega);clear tS;rcases qam (R'+y1) 4294967296 with hr|hr
    ·have hc1:(((R':Int)+(y1:Int)) / 4294967296 != 0)=false:=by rw[bne_eq_false_iff_eq];omega
     have dG:(((R':Int)+(y1:Int)) / 4294967296 == 0)=true:=by rw[beq_iff_eq];omega
     go_wp2_with fail;go_quiet (fail);go_wp2_with fail;go_roundw
     case rel=>exact⟨G',R'+y1,rfl,by go_num,nN,WP.o,xS.o,hr,nm.drewN _⟩
     case measure=>have:=W4.o;simp[intOf];omega
    ·have hc1:(((R':Int)+(y1:Int)) / 4294967296 != 0)=true:=by rw[bne_iff_ne];omega
     have dG:(((R':Int)+(y1:Int)) / 4294967296 == 0)=false:=by rw[beq_eq_false_iff_ne];omega
     have HE:Hid (G'<4294967296/\G'<=q+1):=J (by
      obtain⟨e1,e2⟩:=jW.o G' (R'+y1) nN.o hr;exact⟨e1,jD.o G' e1 (cT.o G' (R'+y1) nN.o e2)⟩)
     go_wp2_with fail;go_quiet (fail);go_wp2_with fail;go_meet;exact⟨G',R'+y1,rfl,by go_num,HE.o.1,xS.o,HE.o.2,nm.drewN _⟩
 case rest=>
  obtain⟨G,R1,rfl,rfl,hG,zl,hGq,nm⟩:=hcut;clear pm cT jW jD WA YM cS hQT hRy HQ dL dT nx rl hy0;have jR:=HB.o.lt;have aA:=nm.blk HB.o;have f9:=nm.grown (some g);generalize hwc:wc=wd at *;clear hwc;go_wp2_with fail;go_loopw [9,10,85] (fun s9 s10 s85 wr=>∃(i cy bo:Nat) (zs:List Nat),i<=n+2/\s9= .int .u64 (cy:Int)/\s10= .int .u32 (bo:Int)/\s85= .int .i64 (i:Int)/\J6 RX w wr g k (n+2) us ys G i cy bo zs) (fun _ _ s85 _=>n+2-(intOf s85).toNat)
  case atStart=>exact⟨0,0,0,[],qal _,rfl,rfl,rfl,rfl,CT,by omega,by omega,by simp[val],by rw[MF];exact aA,f9⟩
  case round=>
   obtain⟨i,cy,bo,zs,hi,rfl,rfl,rfl,hat⟩:=hrel;have aV:∀j,j<n+2->wr.cell? ⟨b,o+j,none⟩=some (d32 (ys.getD j 0)):=fun j hj=>by
    have h2:=hat.2.2.2.2.2.2.block b fA (by have:=fF.o;simpa using this);rw[<-HC.o j (by rw[zQ.o];exact hj)];simp[World.cell?,h2]
   by_cases hlt:i<n+2
   ·have hx:=aV i hlt;have aP:=J (fun t d b' h1 h2 h3 h4 h5=>J6.step (t:=t) (d:=d) (b':=b') hat hlt hk h1 h2 h3 h4 h5);obtain⟨gF,fg,hcy,kX,hv,ax,hgr⟩:=hat;have af:=ax.cell (k+i);have hfz:=ax.frozen (k+i);rw[DC _ _ _ (by rw[AJ (by omega)];omega),GX (by omega) (by omega)]at af;have qj:=mI.get i;have pS:=an.get (k+i);clear aV ax hv fg gF;have f7:=J hgr;clear hgr;obtain⟨y,j6⟩:∃y,ys.getD i 0=y:=⟨_,rfl⟩;obtain⟨u,ob⟩:∃u,us.getD (k+i) 0=u:=⟨_,rfl⟩;rw[j6]at hx qj aP;rw[ob]at af pS aP;clear j6 ob;have om:=IP hG qj;have tR:(G:Int)*(y:Int)=((G*y:Nat):Int):=by simp
    obtain⟨P,hP⟩:∃P,G*y=P:=⟨_,rfl⟩;rw[hP]at tR om aP;clear hP;have hs:=fun W=>PR W u (cy+P) bo pS kX
    simp only[qcy]at hs;have HS:=J hs;clear hs;have UN:cy+P<18446744073709551616:=by omega
    simp only[d32]at hx af;go_wp2_with fail;refine(HS.o _).mono ?_
    rintro e w2 ⟨d,b',rfl,hd,gn,he,rfl⟩;have t7:=J (aP.o (cy+P) d b' rfl UN he hd gn);clear he;go_wp2_with fail;go_roundw
    case rel=>exact⟨i+1,(cy+P) / 4294967296,b',_,by omega,by go_num,rfl,by go_num,t7.o⟩
    case measure=>simp[intOf];omega
   ·obtain rfl:i=n+2:=by omega
    obtain⟨gF,fg,hcy,kX,hv,ax,hgr⟩:=hat;have af:=ax.cell (k+(n+2));have hfz:=ax.frozen (k+(n+2));rw[DC _ _ _ (by rw[AJ (by omega)];omega),GX (by omega) (by omega)]at af;have pS:=an.get (k+(n+2));have gO:=J (fun d b' h=>Sp (d:=d) (b':=b') gF zQ.o (I7 (by omega)) hv h);rw[GR (by omega)]at gO;have kO:=J ax;have yD:=J aV;obtain⟨u,ob⟩:∃u,us.getD (k+(n+2)) 0=u:=⟨_,rfl⟩;rw[ob]at af pS gO;clear ob aV ax hv;have f7:=J hgr;clear hgr;have HS:=J (fun W=>Ku W u cy bo pS hcy kX);have hb2:((n:Int)+2).toNat=n+2:=by omega
    simp only[d32]at af;go_wp2_with fail;refine(HS.o _).mono ?_
    rintro e w2 ⟨d,b',rfl,hd,gn,he,rfl⟩;have fL:=J (gO.o d b' he);have ou:=fg.snoc hd;have qx:(zs++[d]).length=n+3:=by simp[gF]
    have gj:=kO.o.set_ (k+(n+2)) (d32 d);have h2:=GW (us:=us) (zs:=zs) (k:=k) (d:=d) (by omega);rw[gF]at h2;rw[E9 _ _ _ _ (by rw[AJ (by omega)];omega),h2]at gj;have aF:=J gj;have du:=J (ET f7.o (k+(n+2)) (d32 d));clear he h2 gj HS;rcases(show G=q\/G=q+1 by omega) with hGe|hGe
    ·obtain⟨aR,hr⟩:=Ol ou qx fL.o (by rw[YN.o];exact hGe) gn;subst aR;have HR:=J hr;subst hGe;clear hr;go_wp2_with fail;go_ret;exact⟨zs++[d],rfl,qx,ou,HR.o,aF.o,du.o⟩
    ·have zx:0<val ys:=gI.o.vpos;obtain⟨aR,hr⟩:=So ou zx qx fL.o (by rw[YN.o];exact hGe) gn;subst aR;have HR:=J hr;have ub:=J (qbl (val (seg us k (n+2))) zx);clear hr;subst hGe;generalize hxs:zs++[d]=xs at *;clear hxs;have bC:IntKind.u64.wrap (((q+1:Nat):Int)-1)=(q:Int):=by rw[IntKind.wrap_u64];omega
     simp only[qcy,Int.natCast_one]at bC;go_wp2_with fail;go_loopw [13,133] (fun s13 s133 wr=>∃(i a:Nat) (zz:List Nat),i<=n+2/\s13= .int .u32 (a:Int)/\s133= .int .i64 (i:Int)/\Kb RX w wr g k us xs ys i a zz) (fun _ s133 _=>n+2-(intOf s133).toNat)
     case atStart=>exact⟨0,0,[],qal _,rfl,rfl,rfl,CT,by omega,by simp[val],by rw[MF];exact aF.o,du.o⟩
     case round=>
      clear yD af hfz;obtain⟨i,a,zz,hi,rfl,rfl,hat⟩:=hrel;by_cases hlt:i<n+2
      ·have aV:wr.cell? ⟨b,o+i,none⟩=some (d32 (ys.getD i 0)):=by
        have h2:=hat.2.2.2.2.2.block b fA (by have:=fF.o;simpa using this);rw[<-HC.o i (by rw[zQ.o];exact hlt)];simp[World.cell?,h2]
       have aP:=J (fun t h1 h2=>Kb.step (t:=t) hat (by omega) (by omega) h1 h2);obtain⟨gF,fg,ha,hv,ax,hgr⟩:=hat;have af:=ax.cell (k+i);have hfz:=ax.frozen (k+i);rw[DC _ _ _ (by rw[AJ (by rw[AJ (by omega)];omega),AJ (by omega)];omega),GX (by rw[AJ (by omega)];omega) (by omega),Pf (by omega) (by omega)]at af;have qj:=mI.get i;have pS:=ou.get i;clear ax hv fg gF;have f7:=J hgr;clear hgr;obtain⟨y,j6⟩:∃y,ys.getD i 0=y:=⟨_,rfl⟩;obtain⟨u,ob⟩:∃u,xs.getD i 0=u:=⟨_,rfl⟩;rw[j6]at aV qj aP;rw[ob]at af pS aP;clear j6 ob;have HS:=J (fun W=>Rm W u y a pS qj ha);have t7:=J (aP.o (u+y+a) (by omega) rfl);simp only[d32]at aV af;go_wp2_with fail;refine(HS.o _).mono ?_
       rintro e w2 ⟨rfl,rfl⟩;go_wp2_with fail;go_roundw
       case rel=>exact⟨i+1,(u+y+a) / 4294967296,_,by omega,rfl,by go_num,t7.o⟩
       case measure=>simp[intOf];omega
      ·obtain rfl:i=n+2:=by omega
       obtain⟨gF,fg,ha,hv,ax,hgr⟩:=hat;have af:=ax.cell (k+(n+2));have hfz:=ax.frozen (k+(n+2));rw[DC _ _ _ (by rw[AJ (by rw[AJ (by omega)];omega),AJ (by omega)];omega),GX (by rw[AJ (by omega)];omega) (by omega),Pf (by omega) (by omega)]at af;have hE:=SX fg mI gF zQ.o (by omega:xs.length=n+2+1) rfl hv HR.o ub.o;have gj:=ax.set_ (k+(n+2)) (d32 ((xs.getD (n+2) 0+a) % 4294967296));have h2:=GW (us:=over us k xs) (zs:=zz) (k:=k) (d:=(xs.getD (n+2) 0+a) % 4294967296) (by rw[AJ (by omega)];omega);rw[gF]at h2;rw[E9 _ _ _ _ (by rw[AJ (by rw[AJ (by omega)];omega),AJ (by omega)];omega),h2,Qm (by omega) (by simp[gF,qx])]at gj;have pS:=ou.get (n+2);have V9:=ET hgr (k+(n+2)) (d32 ((xs.getD (n+2) 0+a) % 4294967296));obtain⟨u,ob⟩:∃u,xs.getD (n+2) 0=u:=⟨_,rfl⟩;rw[ob]at af pS hE gj V9;have HE:=J hE;have aC:=J gj;have gz:=J V9;clear ob hE ax gj V9 h2 hv hgr;simp only[d32]at af;go_wp2_with fail;go_ret;exact⟨_,rfl,by simp[gF],fg.snoc (qbl _ (by omega)),HE.o,aC.o,gz.o⟩
theorem ML(B g:Nat)(w:World)(L:Value)(l:List Int)(a:Nat)(h:BR B g w L l a):Calls Tryz.prog 76 #[.pointer (some ⟨g,0,none⟩)] w fun e w'=>e= .returned (.bool (decide (a<l.length)))/\Dr w w':=by
 obtain⟨k0,k1,_,_,_⟩:=h.blk.two;obtain⟨A,c,rfl,hc,hm,_⟩:=h.arr.open;have hx:decide ((a:Int)<(l.length:Int))=decide (a<l.length):=by simp
 have HX:=J hx;clear h hc hm hx;go_enter Tryz.func76,Tryz.ntmps76;go_wp2_with fail;go_quiet (fail);go_wp2_with fail;go_ret;exact⟨by rw[<-HX.o];rfl,(Dr.refl w).drewN _⟩
theorem DH(B g:Nat)(w:World)(L:Value)(l:List Int)(a:Nat)(n:Int)(h:BR B g w L l a)(hn:1<=n)(hn2:n<=4611686018427387904):Calls Tryz.prog 78 #[.pointer (some ⟨g,0,none⟩),.int .i64 n] w fun e w'=>e= .returned (.int .i64 (Cm l a n))/\BR B g w' L l (CP l a)/\(∀B',KB B' g w w'):=by
 have H:=J h;have k0:=h.blk.two;have mH:=h.pos;have hfew:=h.few;obtain⟨A,c,rfl,hc,hm,aa⟩:=h.arr.open;have an:=h.arr.1;have HC:=J aa;have bV:=J an;clear h hc hm an aa;rcases qam a l.length with hlt|fh
 ·have hV:Cm l a n=l[a] % n:=by unfold Cm;rw[if_pos hlt,qac,qaa hlt];rfl
  have hA:CP l a=a+1:=if_pos hlt;have hb:=bV.o l[a] (qap hlt);obtain⟨b,o,rfl,eM,aa⟩:=HC.o (by omega);have sW:=H.o.off (by omega) b rfl;have af:=aa a hlt;have aP:Hid (∀W:World,KB B g w W->W.cell? ⟨b,o+a,none⟩=some (.int .i64 l[a])):=J (fun W hk=>(World.cell?_of_block (a:=⟨b,o+a,none⟩) (hk.block b sW.1 sW.2)).trans af);have HV:=J hV;have HA:=J hA;have uq:=J (fun W=>Pi W l[a] n hb.1 hb.2 hn hn2);have aB:IntKind.i64.wrap ((a:Int)+1)=(a:Int)+1:=IntWalk.i64_in _ (by omega);have aY:IntKind.i64.wrap (a:Int)=(a:Int):=IntWalk.i64_in _ (by omega);have rM:=H.o.blk.set_ 1 (.int .i64 ((a:Int)+1));have yV:Hid (Blk (w.setCell ⟨g,1,none⟩ (.int .i64 ((a:Int)+1))) g 129 #[.slice (some ⟨b,o,none⟩) l.length c,.int .i64 ((a:Int)+1)]):=J rM;clear hV hA aa af hb sW rM;generalize l[a]=x at *;go_enter Tryz.func78,Tryz.ntmps78;go_wp2_with fail;go_quiet (fail);go_wp2_with fail;obtain⟨W,hW⟩:∃W,W=(w.drewN nq).setCell ⟨g,1,none⟩ (.int .i64 ((a:Int)+1)):=⟨_,rfl⟩;rw[<-hW];have HK:Hid (∀B',KB B' g w W):=J (fun B'=>by rw[hW];exact((KB.refl B' g w).drewN nq).trans (KB.set (p:=⟨g,1,none⟩) rfl _));have VU:Blk W g 129 #[.slice (some ⟨b,o,none⟩) l.length c,.int .i64 ((a:Int)+1)]:=by
   rw[hW];exact(H.o.blk.drewN nq).set_ 1 (.int .i64 ((a:Int)+1))
  have HBW:=J VU;have m0:=VU.two;have af:=aP.o W (HK.o B);clear hW VU k0 yV;have hlt2:(a:Int)<(l.length:Int):=by omega
  go_region_law (go_simp;go_at_call 14;refine(uq.o _).mono ?_;rintro e w3 ⟨rfl,rfl⟩)
  all_goals
   go_wp2_with fail;go_ret;refine⟨by rw[HV.o];rfl,?_,fun B'=>(HK.o B').drewN _⟩;rw[HA.o];refine H.o.kb ((HK.o B).drewN _) ?_ (by omega)
   rw[qcy];exact HBW.o
 ·have hV:Cm l a n=0:=if_neg (by omega);have hA:CP l a=a:=if_neg (by omega);have HV:=J hV;have HA:=J hA;have uU:¬(a:Int)<(l.length:Int):=by omega
  clear hV hA hn hn2;go_enter Tryz.func78,Tryz.ntmps78;go_wp2_with fail;go_quiet (fail);go_wp2_with fail;go_ret;refine⟨by rw[HV.o];rfl,?_,fun B'=>(KB.refl B' g w).drewN _⟩;rw[HA.o];exact H.o.kb ((KB.refl B g w).drewN _) H.o.blk H.o.pos
theorem KI(B g:Nat)(w:World)(L:Value)(l:List Int)(a:Nat)(lo hi:Int)(h:BR B g w L l a)(h1:lo<=hi)(h2: -1000000<=lo)(h3:hi<=1000000):Calls Tryz.prog 77 #[.pointer (some ⟨g,0,none⟩),.int .i64 lo,.int .i64 hi] w fun e w'=>e= .returned (.int .i64 (lo+Cm l a (hi-lo+1)))/\BR B g w' L l (CP l a)/\(∀B',KB B' g w w'):=by
 have HN:=J (DH B g w L l a (hi-lo+1) h (by omega) (by omega));have hr:=B5 (l:=l) (a:=a) (n:=hi-lo+1) (by omega);have dZ:IntKind.i64.wrap (hi-lo)=hi-lo:=IntWalk.i64_in _ (by omega);have aB:IntKind.i64.wrap (hi-lo+1)=hi-lo+1:=IntWalk.i64_in _ (by omega);generalize Cm l a (hi-lo+1)=x at *;have aY:IntKind.i64.wrap (lo+x)=lo+x:=IntWalk.i64_in _ (by omega);clear h;go_enter Tryz.func77,Tryz.ntmps77;go_wp2_with fail;refine HN.o.mono ?_
 rintro e w2 ⟨rfl,ht,hk⟩;have k7:=J ht;have HK:=J hk;clear ht hk;go_wp2_with fail;go_ret;exact⟨rfl,k7.o,HK.o⟩
theorem Pg(w:World)(v:Value)(l:List Int)(h:D1 w v l)(hn:l.length<=1000000):Calls Tryz.prog 23 #[v] w fun e w'=>e= .returned (.pointer (some ⟨w.heap.size,0,none⟩))/\BR (w.heap.size+1) w.heap.size w' v l 0/\Ext w w'/\w'.heap.size=w.heap.size+1:=by
 have H:=J h;obtain⟨A,c,rfl,_⟩:=h.open;clear h;go_enter Tryz.func23,Tryz.ntmps23;go_wp2_with fail;go_ret;refine⟨rfl,⟨Blk.new w _ _,H.o.ext ((Ext.refl w).alloc _),fun h0 b hb=> ?_,by omega,qal _,hn⟩,(Ext.refl w).alloc _,by simp⟩;have:=H.o.lt h0 b hb;omega
theorem KW(w:World)(v:Value)(l:List Int)(h:D1 w v l):Calls Tryz.prog 21 #[v] w fun e w'=>e= .returned (.bool (decide (l.length<=120)))/\w=w':=by
 obtain⟨A,c,rfl,_⟩:=h.open;have hx:decide ((l.length:Int)<=120)=decide (l.length<=120):=by
  rw[decide_eq_decide];omega
 have HX:=J hx;clear h hx;go_enter Tryz.func21,Tryz.ntmps21;go_wp2_with fail;go_ret;exact⟨by rw[<-HX.o];rfl,rfl⟩
theorem MZ(w:World)(n:Nat)(hn:n<256):Calls Tryz.prog 196 #[.int .u8 (n:Int)] w fun e w'=>e= .returned (.bool (Dp n))/\w=w':=by
 have e1:decide ((48:Int)<=(n:Int))=decide (48<=n):=by rw[decide_eq_decide];omega
 have e2:decide ((n:Int)<=57)=decide (n<=57):=by rw[decide_eq_decide];omega
 have H:Hid (Dp n=(decide ((48:Int)<=(n:Int)) && decide ((n:Int)<=57))):=J (by rw[e1,e2];rfl);clear e1 e2;cases b1:decide ((48:Int)<=(n:Int))<;>cases b2:decide ((n:Int)<=57)
 all_goals first|(exfalso;simp only[decide_eq_false_iff_not,decide_eq_true_eq]at b1 b2;omega)|skip
 all_goals
  rw[b1,b2]at H;go_enter Tryz.func196,Tryz.ntmps196;go_wp2_with fail;go_ret;rw[H.o];exact⟨rfl,rfl⟩
theorem Gz(w:World)(n:Nat)(hn:n<256):Calls Tryz.prog 124 #[.int .u8 (n:Int)] w fun e w'=>e= .returned (.bool (Dp n))/\w=w':=by
 have e1:decide ((48:Int)<=(n:Int))=decide (48<=n):=by rw[decide_eq_decide];omega
 have e2:decide ((n:Int)<=57)=decide (n<=57):=by rw[decide_eq_decide];omega
 have H:Hid (Dp n=(decide ((48:Int)<=(n:Int)) && decide ((n:Int)<=57))):=J (by rw[e1,e2];rfl);clear e1 e2;cases b1:decide ((48:Int)<=(n:Int))<;>cases b2:decide ((n:Int)<=57)
 all_goals first|(exfalso;simp only[decide_eq_false_iff_not,decide_eq_true_eq]at b1 b2;omega)|skip
 all_goals
  rw[b1,b2]at H;go_enter Tryz.func124,Tryz.ntmps124;go_wp2_with fail;go_ret;rw[H.o];exact⟨rfl,rfl⟩
theorem G2(w:World)(n:Nat)(hn:n<256):Calls Tryz.prog 150 #[.int .u8 (n:Int)] w fun e w'=>e= .returned (.bool (Ej n))/\w=w':=by
 have e1:decide ((97:Int)<=(n:Int))=decide (97<=n):=by rw[decide_eq_decide];omega
 have e2:decide ((n:Int)<=122)=decide (n<=122):=by rw[decide_eq_decide];omega
 have e3:decide ((65:Int)<=(n:Int))=decide (65<=n):=by rw[decide_eq_decide];omega
 have e4:decide ((n:Int)<=90)=decide (n<=90):=by rw[decide_eq_decide];omega
 have H:Hid (Ej n=((decide ((97:Int)<=(n:Int)) && decide ((n:Int)<=122)) || (decide ((65:Int)<=(n:Int)) && decide ((n:Int)<=90)))):=J (by rw[e1,e2,e3,e4];rfl);clear e1 e2 e3 e4;cases b1:decide ((97:Int)<=(n:Int))<;>cases b2:decide ((n:Int)<=122)<;>cases b3:decide ((65:Int)<=(n:Int))<;>cases b4:decide ((n:Int)<=90)
 all_goals first|(exfalso;simp only[decide_eq_false_iff_not,decide_eq_true_eq]at b1 b2 b3 b4;omega)|skip
 all_goals
  rw[b1,b2,b3,b4]at H;go_enter Tryz.func150,Tryz.ntmps150;go_wp2_with fail;go_ret;rw[H.o];exact⟨rfl,rfl⟩
theorem In(w:World)(n:Nat)(hn:n<256):Calls Tryz.prog 122 #[.int .u8 (n:Int)] w fun e w'=>e= .returned (.bool (Ej n))/\w=w':=by
 have e1:decide ((97:Int)<=(n:Int))=decide (97<=n):=by rw[decide_eq_decide];omega
 have e2:decide ((n:Int)<=122)=decide (n<=122):=by rw[decide_eq_decide];omega
 have e3:decide ((65:Int)<=(n:Int))=decide (65<=n):=by rw[decide_eq_decide];omega
 have e4:decide ((n:Int)<=90)=decide (n<=90):=by rw[decide_eq_decide];omega
 have H:Hid (Ej n=((decide ((97:Int)<=(n:Int)) && decide ((n:Int)<=122)) || (decide ((65:Int)<=(n:Int)) && decide ((n:Int)<=90)))):=J (by rw[e1,e2,e3,e4];rfl);clear e1 e2 e3 e4;cases b1:decide ((97:Int)<=(n:Int))<;>cases b2:decide ((n:Int)<=122)<;>cases b3:decide ((65:Int)<=(n:Int))<;>cases b4:decide ((n:Int)<=90)
 all_goals first|(exfalso;simp only[decide_eq_false_iff_not,decide_eq_true_eq]at b1 b2 b3 b4;omega)|skip
 all_goals
  rw[b1,b2,b3,b4]at H;go_enter Tryz.func122,Tryz.ntmps122;go_wp2_with fail;go_ret;rw[H.o];exact⟨rfl,rfl⟩
theorem OA(w:World)(n:Nat)(hn:n<256):Calls Tryz.prog 151 #[.int .u8 (n:Int)] w fun e w'=>e= .returned (.bool (BU n))/\w=w':=by
 have H:Hid (BU n=(Ej n || Dp n || n == 95)):=J rfl;have HL:=J (fun W=>G2 W n hn);have HD:=J (fun W=>MZ W n hn);have hi:((n:Int) == 95)=(n == 95):=by rw[qbi];simp;omega
 have HI:=J hi;clear hi;cases h1:Ej n
 ·cases h2:Dp n
  ·rw[h1]at HL H;rw[h2]at HD H;clear h1 h2;cases h3:(n == 95)
   all_goals
    have hb:=HI.o;rw[h3]at hb;rw[h3]at H;clear h3;go_enter Tryz.func151,Tryz.ntmps151;go_wp2_with fail;refine(HL.o _).mono ?_
    rintro e w1 ⟨rfl,rfl⟩;go_wp2_with fail;refine(HD.o _).mono ?_
    rintro e w1 ⟨rfl,rfl⟩;go_wp2_with fail;go_ret;rw[H.o];exact⟨rfl,rfl⟩
  ·rw[h1]at HL H;rw[h2]at HD H;clear h1 h2;go_enter Tryz.func151,Tryz.ntmps151;go_wp2_with fail;refine(HL.o _).mono ?_
   rintro e w1 ⟨rfl,rfl⟩;go_wp2_with fail;refine(HD.o _).mono ?_
   rintro e w1 ⟨rfl,rfl⟩;go_wp2_with fail;go_ret;rw[H.o];exact⟨rfl,rfl⟩
 ·rw[h1]at HL H;clear h1;go_enter Tryz.func151,Tryz.ntmps151;go_wp2_with fail;refine(HL.o _).mono ?_
  rintro e w1 ⟨rfl,rfl⟩;go_wp2_with fail;go_ret;rw[H.o];exact⟨rfl,rfl⟩
end Big
end Go.Proofs.YtkoaogkknnelaaaGreatDoor
