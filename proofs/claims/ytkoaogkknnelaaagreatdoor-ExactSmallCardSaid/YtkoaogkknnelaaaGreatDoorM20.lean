import Derived.Test.YtkoaogkknnelaaaGreatDoorM19
import Derived.Laws.StructEq
set_option linter.unusedVariables false
set_option linter.unusedSimpArgs false
set_option maxHeartbeats 4000000
set_option maxRecDepth 100000
namespace Go.Proofs.YtkoaogkknnelaaaGreatDoor
namespace Big
open Lib (hid)
open Go.RowKit
theorem FM{l:List UInt8}{a:Nat}(ha:a<l.length):∃c t,l.drop a=c::t/\c.toNat=Af l a/\l[a]? =some c:=by
 refine⟨l[a],l.drop (a+1),List.drop_eq_getElem_cons ha,(Bz l a ha).symm,List.getElem?_eq_getElem ha⟩
theorem M8{l:List UInt8}{a:Nat}(ha:a<l.length)(h:D2 (Af l a)=true):C8 (l.drop a)=if Aq BQ (l.drop a)<=24 then some (2,Aq BQ (l.drop a)) else none:=by
 obtain⟨c,t,h1,h2,_⟩:=FM ha;rw[h1];unfold C8;simp only;rw[h2,if_pos h]
theorem O1{l:List UInt8}{a:Nat}(ha:a<l.length)(h0:D2 (Af l a)=false)(h:Df (Af l a)=true):C8 (l.drop a)=if Bm ((l.drop a).take (Aq Cq (l.drop a)))=0 then some (1,Aq Cq (l.drop a)) else none:=by
 obtain⟨c,t,h1,h2,_⟩:=FM ha;rw[h1];unfold C8;simp only;rw[h2,h0,h];simp
theorem QO{l:List UInt8}{a:Nat}(ha:a<l.length)(h0:D2 (Af l a)=false)(h:Df (Af l a)=false):C8 (l.drop a)=if FR (Af l a) then some (3,1) else none:=by
 obtain⟨c,t,h1,h2,_⟩:=FM ha;rw[h1];unfold C8;simp only;rw[h2,h0,h];simp
theorem N7{l:List UInt8}{a:Nat}(ha:a<l.length):l[a]? =some 32↔Af l a=32:=by
 obtain⟨c,t,_,h2,h3⟩:=FM ha;rw[h3,<-h2];constructor
 ·intro h;injection h with h;rw[h];rfl
 ·intro h
  congr 1
  apply UInt8.toNat_inj.1;rw[h];rfl
def IS(w:World)(l:List UInt8)(e:Ending)(w':World):Prop:=
 ∃v,e= .returned (.tuple #[v,.int .i64 ((Bj l).2.1:Int),.int .i64 ((Bj l).2.2:Int)])/\w'.ownsRow w.heap.size 122 3 v (Bj l).1.length (C7 (Bj l).1)/\Ext w w'
theorem RE(w:World)(ty:TypeId)(x y z:Value):∀(j:Nat) (u:Value),[x,y,z][j]? =some u->(w.alloc (.cells #[x,y,z] ty)).cell? ((⟨w.heap.size,0,none⟩:Addr).add j)=some u:=fun j u hj=>by
 have h1:=(Blk.new w ty #[x,y,z]).cell j;have h2:(⟨w.heap.size,0,none⟩:Addr).add j=⟨w.heap.size,j,none⟩:=by
  unfold Addr.add;split
  ·rename_i h;subst h;rfl
  ·simp
 rw[h2,h1,<-hj];simp
theorem NL{w:World}{dL:Nat}{e:TypeId}{size n:Nat}{v:Value}{xs:List Value}(h:w.ownsRow dL e size v n xs):∀k,v.ownBlock=some k->k<w.heap.size:=by
 obtain⟨h1,h2⟩:=h;rcases h2 with ⟨rfl,_⟩|⟨g,cap,cur,rfl,hg,hh,_⟩
 ·intro k hk;simp[Value.ownBlock]at hk
 ·intro k hk;simp only[Value.ownBlock,Option.some.injEq]at hk;subst hk;rcases Nat.lt_or_ge g w.heap.size with h|h
  ·exact h
  ·rw[Array.getElem?_eq_none h]at hh;cases hh
def QE(w wr:World)(l:List UInt8)(a:Nat)(ts:List Tok)(tv:Value):Prop:=
 ts.length<=a/\wr.ownsRow w.heap.size 122 3 tv ts.length (C7 ts)/\Ext w wr/\Ce wr/\Dh l a ts=Bj l
structure Hv (w wr W:World) (a k:Nat) (t:List UInt8) (ts:List Tok) (tv:Value):Prop where
 blk:Blk W wr.heap.size 122 #[.int .i64 (k:Int),.int .i64 (a:Int),str t]
 row:W.ownsRow w.heap.size 122 3 tv ts.length (C7 ts)
 own:∀b,tv.ownBlock=some b->w.heap.size<=b/\b<wr.heap.size
 ext:Ext w W
theorem Hv.start{w wr:World}{a k:Nat}{t:List UInt8}{ts:List Tok}{tv:Value}(hx:Ext w wr)(hr:wr.ownsRow w.heap.size 122 3 tv ts.length (C7 ts)):
  Hv w wr (wr.alloc (.cells #[.int .i64 (k:Int),.int .i64 (a:Int),str t] 122)).drew a k t ts tv:=
 ⟨(Blk.new wr _ _).drew,Aj hr (fun g _ hg=>Below.heap_alloc _ _ g hg),fun b hb=>And.intro (AW hr b hb) (NL hr b hb),(hx.alloc (.cells #[.int .i64 (k:Int),.int .i64 (a:Int),str t] 122)).drewN 1⟩
theorem Hv.more{w wr W W':World}{a k:Nat}{t:List UInt8}{ts:List Tok}{tv:Value}(h:Hv w wr W a k t ts tv)(hx:Ext W W'):Hv w wr W' a k t ts tv:=
 ⟨h.blk.ext hx,Aj h.row (fun g _ hg=>Below.block hx g hg),h.own,h.ext.trans hx⟩
theorem Hv.done {w wr W W':World} {a k:Nat} {t:List UInt8} {ts:List Tok} {tv v':Value} (h:Hv w wr W a k t ts tv) (ho:Obj) (hg:wr.heap.size<W.heap.size)
  (aG:W'.ownsRow w.heap.size 122 3 v' (ts.length+1) (C7 ts++[.int .i64 (k:Int),.int .i64 (a:Int),str t])) (aQ:(W.alloc ho).grownBy W' tv.ownBlock):
  Blk W' wr.heap.size 122 #[.int .i64 (k:Int),.int .i64 (a:Int),str t]/\W'.ownsRow w.heap.size 122 3 v' (ts++[(⟨k,a,t⟩:Tok)]).length (C7 (ts++[(⟨k,a,t⟩:Tok)]))/\Ext w W':=by
 refine⟨?_,?_,?_⟩
 ·have h1:=aQ.block wr.heap.size (show wr.heap.size<(W.alloc ho).heap.size by simp;omega) (fun e=>by have:=(h.own _ e.symm).2;omega);exact h1.trans (h.blk.alloc ho)
 ·rw[M7,List.length_append,List.length_singleton];exact aG
 ·exact(h.ext.alloc ho).grown aQ (fun b hb=>(h.own b hb).1)
theorem UU{l:List UInt8}{a n:Nat}(_h:a+n<=l.length):(l.take ((a:Int)+(n:Int)).toNat).drop a=(l.drop a).take n:=by
 rw[show ((a:Int)+(n:Int)).toNat=a+n by omega,List.drop_take,Nat.add_sub_cancel_left]
theorem LX(w:World)(l:List UInt8)(hm:Ce w)(hl:l.length<=400):Calls Tryz.prog 65 #[str l] w (IS w l):=by
 have HM:=hid hm;have HT:Hid (Dh l 0 []=Bj l):=hid (by unfold Bj Dh;rw[if_neg (by omega)]);have vK:¬(400:Int)<(l.length:Int):=by omega
 have pe:=hid (fun W hx=>HM.out.ext (w':=W) hx);obtain⟨i0,hi,aE,hz1,ba⟩:=info_parts RZ;clear hm;go_enter Tryz.func65,Tryz.ntmps65;go_wp2_with fail
 go_loopg [5,6] l.length (fun gh s5 s6 wr=>∃(a:Nat) (ts:List Tok) (tv:Value),gh=l.length-a/\s5=tv/\s6= .int .i64 (a:Int)/\a<=l.length/\QE w wr l a ts tv)
 case atStart=>exact⟨0,[],_,rfl,rfl,rfl,Nat.zero_le _,Nat.le_refl _,⟨rfl,.inl ⟨rfl,rfl⟩⟩,Ext.refl w,HM.out,HT.out⟩
 case round=>
  obtain⟨a,ts,tv,jn,rfl,rfl,kD,oW,be,hx,nH,o6⟩:=hrel;have jb:=hid jn;have fy:=hid o6;have HX:=hid hx;have iO:=hid be;obtain⟨At,ct,ZG⟩:=AN be;subst ZG;clear jn o6 hx HT be;by_cases hlt:a<l.length
  ·have oX:=N7 hlt;have eP:=CJ l a;have dM:=hid (fun W=>H8 W (Af l a) eP);have jO:=hid (fun W=>F3 W (Af l a) eP);have eY:=hid (fun W=>Ps W (Af l a) eP);have ar:=hid (HX.out.alloc (.cells #[.int .i64 0,.int .i64 (a:Int),.string ⟨#[]⟩] 122));have ai:=hid (Blk.new wr 122 #[.int .i64 0,.int .i64 (a:Int),.string ⟨#[]⟩]);have er:=HX.out.size;by_cases h32:Af l a=32
   ·have iF:=hid (K1 (ts:=ts) hlt (oX.2 h32));have zQ:((Af l a:Int) == 32)=true:=by rw[h32];rfl
    have Wd:=hid (pe.out _ ar.out);clear oX h32 nH;go_wp2_with fail
    go_roundg (l.length-(a+1))
    case rel=>exact⟨a+1,ts,_,rfl,rfl,by go_num,by omega,by omega,Aj iO.out (fun g _ hg=>Below.heap_alloc _ _ g hg),ar.out,Wd.out,by rw[<-iF.out];exact fy.out⟩
    case measure=>rw[jb.out];omega
   ·have zQ:((Af l a:Int) == 32)=false:=by rw[beq_eq_false_iff_ne];omega
    have gm:l[a]?≠some 32:=fun h=>h32 (oX.1 h)
    have zU:(0:Int)<=(a:Int):=by omega
    have ha1:(a:Int)<=(l.length:Int):=by omega
    clear oX h32 nH;cases hlet:D2 (Af l a)
    ·rw[hlet]at dM;cases hdig:Df (Af l a)
     ·rw[hdig]at jO;have gK:=QO hlt hlet hdig;cases hsg:FR (Af l a)
      ·rw[hsg]at gK eY;have HR:Hid (Bj l=([],a,6)):=hid (by rw[<-fy.out];exact Fd hlt gm gK);clear gK gm hlet hdig hsg;go_wp2_with fail;refine(dM.out _).mono ?_
       rintro e w2 ⟨rfl,rfl⟩;go_wp2_with fail;refine(jO.out _).mono ?_
       rintro e w2 ⟨rfl,rfl⟩;go_wp2_with fail;refine(eY.out _).mono ?_
       rintro e w2 ⟨rfl,rfl⟩;go_wp2_with fail;go_ret3;exact⟨_,by rw[HR.out];rfl,by rw[HR.out];exact⟨rfl,.inl ⟨rfl,rfl⟩⟩,ar.out⟩
      ·rw[hsg]at gK eY;have iF:=hid (Fc (ts:=ts) hlt gm gK);have aZ:IntKind.i64.wrap ((a:Int)+1)=(a:Int)+1:=IntWalk.i64_in _ (by omega);have XK:(0:Int)<=(a:Int)+1:=by omega
       have XJ:(a:Int)+1<=(l.length:Int):=by omega
       have XI:(a:Int)<=(a:Int)+1:=by omega
       have k0:=ai.out.three;have pK:Hid ((l.take (a+1)).drop a=(l.drop a).take 1):=hid (by rw[List.drop_take,Nat.add_sub_cancel_left]);clear gK gm hlet hdig hsg;go_wp2_with fail;refine(dM.out _).mono ?_
       rintro e w2 ⟨rfl,rfl⟩;go_wp2_with fail;refine(jO.out _).mono ?_
       rintro e w2 ⟨rfl,rfl⟩;go_wp2_with fail;refine(eY.out _).mono ?_
       rintro e w2 ⟨rfl,rfl⟩;go_wp2_with fail
       go_region_law (fail)
       have iR:(List.drop a (List.take (a+1) l)).length=1:=by rw[pK.out,List.length_take,List.length_drop];omega
       have eA:Hid (Hv w wr _ a 3 (List.drop a (List.take (a+1) l)) ts (.slice At ts.length ct)):=hid (Hv.start HX.out iO.out);rw[show ((3:Nat):Int)=3 from rfl]at eA;have pD:wr.heap.size<(wr.alloc (.cells #[.int .i64 3,.int .i64 (a:Int),str (List.drop a (List.take (a+1) l))] 122)).drew.heap.size:=by simp
       generalize (wr.alloc (.cells #[.int .i64 3,.int .i64 (a:Int),str (List.drop a (List.take (a+1) l))] 122)).drew=v2 at *;generalize List.drop a (List.take (a+1) l)=t at *;clear k0;have mP:=hid iR;have k0:=eA.out.blk.three;have qc:ts.length<=400:=by omega
       have al:ts.length+1<=maxLen:=by unfold maxLen;omega
       have hb2:(ts.length+1)*32<=140737488355328:=by omega
       have dE:=hid al;have dD:=hid hb2;have dW:w.heap.size<=(v2.alloc (.cells #[.int .i64 3,.int .i64 (a:Int),str t] 122)).heap.size:=by have:=eA.out.ext.size;simp;omega
       have ew:=hid dW;have io:Hid ((v2.alloc (.cells #[.int .i64 3,.int .i64 (a:Int),str t] 122)).ownsRow w.heap.size 122 3 (.slice At ts.length ct) ts.length (C7 ts)):=hid (Aj eA.out.row (fun g _ hg=>Below.heap_alloc _ _ g hg));have fF:=hid (RE v2 122 (.int .i64 3) (.int .i64 (a:Int)) (str t));have cx:IntKind.i64.wrap ((a:Int)+(t.length:Int))=(a:Int)+(t.length:Int):=IntWalk.i64_in _ (by omega);clear al hb2 dW;go_wp2_with (at_builtin;go_must (refine wpList_append_own _ rfl _ _ 115 rfl w.heap.size 122 i0 _ 3 32 Tryz.underlying115 hi aE hz1 ba rfl (by decide) _ ts.length (C7 ts) rfl io.out ⟨v2.heap.size,0,none⟩ 1 1 [.int .i64 3,.int .i64 (a:Int),str t] rfl rfl fF.out (by simp[Value.oneCell',str]) dE.out dD.out ew.out ?_;intro v' w' aG aQ _;have HD:=hid (eA.out.done _ pD aG aQ);obtain⟨A',c',rfl⟩:=AN aG;have m0:=HD.out.1.three;clear aG aQ));go_wp2_with fail;have oE:=hid (pe.out _ HD.out.2.2)
       go_roundg (l.length-(a+1))
       case rel=>exact⟨a+1,ts++[⟨3,a,t⟩],_,rfl,rfl,by go_num,by omega,by rw[List.length_append,List.length_singleton];omega,HD.out.2.1,HD.out.2.2,oE.out,by rw[pK.out,<-iF.out];exact fy.out⟩
       case measure=>rw[jb.out];omega
     ·rw[hdig]at jO;have gK:=O1 hlt hlet hdig;have i4:=hid (fun W=>L1 W (l.drop a) (by rw[List.length_drop];omega));have ky:=Di Cq (l.drop a);rw[List.length_drop]at ky;have l7:0<Aq Cq (l.drop a):=F2 (by rw[List.length_drop];omega) (by rw[Fv,Nat.add_zero];unfold Cq;rw[hdig];rfl);generalize Aq Cq (l.drop a)=n at *;have aZ:IntKind.i64.wrap ((a:Int)+(n:Int))=(a:Int)+(n:Int):=IntWalk.i64_in _ (by omega);have XK:(0:Int)<=(a:Int)+(n:Int):=by omega
      have XJ:(a:Int)+(n:Int)<=(l.length:Int):=by omega
      have XI:(a:Int)<=(a:Int)+(n:Int):=by omega
      have k0:=ai.out.three;have pK:=hid (UU (l:=l) (a:=a) (n:=n) (by omega));go_wp2_with fail;refine(dM.out _).mono ?_
      rintro e w2 ⟨rfl,rfl⟩;go_wp2_with fail;refine(jO.out _).mono ?_
      rintro e w2 ⟨rfl,rfl⟩;go_wp2_with fail
      go_region_law (go_simp;go_at_call 125;refine(i4.out _).mono ?_;rintro e w3 ⟨rfl,rfl⟩)
      rw[<-pK.out]at gK;have iR:(List.drop a (List.take ((a:Int)+(n:Int)).toNat l)).length=n:=by rw[pK.out,List.length_take,List.length_drop];omega
      have eA:Hid (Hv w wr _ a 1 (List.drop a (List.take ((a:Int)+(n:Int)).toNat l)) ts (.slice At ts.length ct)):=hid (Hv.start HX.out iO.out);rw[show ((1:Nat):Int)=1 from rfl]at eA;have pD:wr.heap.size<(wr.alloc (.cells #[.int .i64 1,.int .i64 (a:Int),str (List.drop a (List.take ((a:Int)+(n:Int)).toNat l))] 122)).drew.heap.size:=by simp
      generalize (wr.alloc (.cells #[.int .i64 1,.int .i64 (a:Int),str (List.drop a (List.take ((a:Int)+(n:Int)).toNat l))] 122)).drew=v2 at *;generalize List.drop a (List.take ((a:Int)+(n:Int)).toNat l)=t at *;clear k0;have q0:=eA.out.blk.three;have mP:=hid iR;have HP:=hid (fun W=>Fe W t);by_cases hc0:Bm t=0
      ·rw[if_pos hc0]at gK;have iF:=hid (Fc (ts:=ts) hlt gm gK);have HC:=hid hc0;clear gK gm hlet hdig hc0;go_wp2_with fail;refine(HP.out _).mono ?_
       rintro e w5 ⟨v5,rfl,cT,hx5⟩;obtain⟨b5,n5,A5,c5,n6,A6,c6,rfl⟩:=cT.shape;have mv:=hid (eA.out.more (hx5.alloc (.cells #[.bool b5,.slice A5 n5 c5,.slice A6 n6 c6] 26)));have dJ:wr.heap.size<(w5.alloc (.cells #[.bool b5,.slice A5 n5 c5,.slice A6 n6 c6] 26)).heap.size:=by have:=hx5.size;simp;omega
       clear cT hx5 q0;rw[HC.out];go_upto_region 18 with fail;generalize w5.alloc (.cells #[.bool b5,.slice A5 n5 c5,.slice A6 n6 c6] 26)=v3 at *;have k0:=mv.out.blk.three;have qc:ts.length<=400:=by omega
       have al:ts.length+1<=maxLen:=by unfold maxLen;omega
       have hb2:(ts.length+1)*32<=140737488355328:=by omega
       have dE:=hid al;have dD:=hid hb2;have dW:w.heap.size<=(v3.alloc (.cells #[.int .i64 1,.int .i64 (a:Int),str t] 122)).heap.size:=by have:=mv.out.ext.size;simp;omega
       have ew:=hid dW;have io:Hid ((v3.alloc (.cells #[.int .i64 1,.int .i64 (a:Int),str t] 122)).ownsRow w.heap.size 122 3 (.slice At ts.length ct) ts.length (C7 ts)):=hid (Aj mv.out.row (fun g _ hg=>Below.heap_alloc _ _ g hg));have fF:=hid (RE v3 122 (.int .i64 1) (.int .i64 (a:Int)) (str t));have cx:IntKind.i64.wrap ((a:Int)+(t.length:Int))=(a:Int)+(t.length:Int):=IntWalk.i64_in _ (by omega);clear al hb2 dW;go_wp2_with (at_builtin;go_must (refine wpList_append_own _ rfl _ _ 115 rfl w.heap.size 122 i0 _ 3 32 Tryz.underlying115 hi aE hz1 ba rfl (by decide) _ ts.length (C7 ts) rfl io.out ⟨v3.heap.size,0,none⟩ 1 1 [.int .i64 1,.int .i64 (a:Int),str t] rfl rfl fF.out (by simp[Value.oneCell',str]) dE.out dD.out ew.out ?_;intro v' w' aG aQ _;have HD:=hid (mv.out.done _ dJ aG aQ);obtain⟨A',c',rfl⟩:=AN aG;have m0:=HD.out.1.three;clear aG aQ));go_wp2_with fail;have oE:=hid (pe.out _ HD.out.2.2)
       go_roundg (l.length-(a+n))
       case rel=>exact⟨a+n,ts++[⟨1,a,t⟩],_,rfl,rfl,by go_num,by omega,by rw[List.length_append,List.length_singleton];omega,HD.out.2.1,HD.out.2.2,oE.out,by rw[pK.out,<-iF.out];exact fy.out⟩
       case measure=>rw[jb.out];omega
      ·rw[if_neg hc0]at gK;have HR:Hid (Bj l=([],a,6)):=hid (by rw[<-fy.out];exact Fd hlt gm gK);have hcn:((Bm t:Int) != 0)=true:=by rw[bne_iff_ne];omega
       clear gK gm hlet hdig hc0;go_wp2_with fail;refine(HP.out _).mono ?_
       rintro e w5 ⟨v5,rfl,cT,hx5⟩;obtain⟨b5,n5,A5,c5,n6,A6,c6,rfl⟩:=cT.shape;have mv:=hid (eA.out.more (hx5.alloc (.cells #[.bool b5,.slice A5 n5 c5,.slice A6 n6 c6] 26)));have dJ:wr.heap.size<(w5.alloc (.cells #[.bool b5,.slice A5 n5 c5,.slice A6 n6 c6] 26)).heap.size:=by have:=hx5.size;simp;omega
       clear cT hx5 q0;go_wp2_with fail;go_ret3;exact⟨_,by rw[HR.out];rfl,by rw[HR.out];exact⟨rfl,.inl ⟨rfl,rfl⟩⟩,mv.out.ext⟩
    ·rw[hlet]at dM;have gK:=M8 hlt hlet;have tO:Bn (l.drop a)=Aq BQ (l.drop a):=by
      unfold Bn;rw[if_pos (by rw[Fv,Nat.add_zero];exact hlet)]
     have i4:=hid (fun W=>Ki W (l.drop a) (by rw[List.length_drop];omega));rw[tO]at i4;have ky:=Di BQ (l.drop a);rw[List.length_drop]at ky;have l7:0<Aq BQ (l.drop a):=F2 (by rw[List.length_drop];omega) (by rw[Fv,Nat.add_zero];unfold BQ;rw[hlet];rfl);clear tO;generalize Aq BQ (l.drop a)=n at *;have aZ:IntKind.i64.wrap ((a:Int)+(n:Int))=(a:Int)+(n:Int):=IntWalk.i64_in _ (by omega);have XK:(0:Int)<=(a:Int)+(n:Int):=by omega
     have XJ:(a:Int)+(n:Int)<=(l.length:Int):=by omega
     have XI:(a:Int)<=(a:Int)+(n:Int):=by omega
     have k0:=ai.out.three;have pK:=hid (UU (l:=l) (a:=a) (n:=n) (by omega));go_wp2_with fail;refine(dM.out _).mono ?_
     rintro e w2 ⟨rfl,rfl⟩;go_wp2_with fail
     go_region_law (go_simp;go_at_call 123;refine(i4.out _).mono ?_;rintro e w3 ⟨rfl,rfl⟩)
     have iR:(List.drop a (List.take ((a:Int)+(n:Int)).toNat l)).length=n:=by rw[pK.out,List.length_take,List.length_drop];omega
     have eA:Hid (Hv w wr _ a 2 (List.drop a (List.take ((a:Int)+(n:Int)).toNat l)) ts (.slice At ts.length ct)):=hid (Hv.start HX.out iO.out);rw[show ((2:Nat):Int)=2 from rfl]at eA;have pD:wr.heap.size<(wr.alloc (.cells #[.int .i64 2,.int .i64 (a:Int),str (List.drop a (List.take ((a:Int)+(n:Int)).toNat l))] 122)).drew.heap.size:=by simp
     generalize (wr.alloc (.cells #[.int .i64 2,.int .i64 (a:Int),str (List.drop a (List.take ((a:Int)+(n:Int)).toNat l))] 122)).drew=v2 at *;generalize List.drop a (List.take ((a:Int)+(n:Int)).toNat l)=t at *;clear k0;have q0:=eA.out.blk.three;have mP:=hid iR;rcases Nat.lt_or_ge 24 n with h24|h24
     ·rw[if_neg (by omega)]at gK;have HR:Hid (Bj l=([],a,6)):=hid (by rw[<-fy.out];exact Fd hlt gm gK);have Vm:(24:Int)<(t.length:Int):=by omega
      clear gK gm hlet iR;go_wp2_with fail;go_ret3;exact⟨_,by rw[HR.out];rfl,by rw[HR.out];exact⟨rfl,.inl ⟨rfl,rfl⟩⟩,eA.out.ext⟩
     ·rw[if_pos h24]at gK;have iF:=hid (Fc (ts:=ts) hlt gm gK);have Vm:¬(24:Int)<(t.length:Int):=by omega
      clear gK gm hlet q0;have k0:=eA.out.blk.three;have qc:ts.length<=400:=by omega
      have al:ts.length+1<=maxLen:=by unfold maxLen;omega
      have hb2:(ts.length+1)*32<=140737488355328:=by omega
      have dE:=hid al;have dD:=hid hb2;have dW:w.heap.size<=(v2.alloc (.cells #[.int .i64 2,.int .i64 (a:Int),str t] 122)).heap.size:=by have:=eA.out.ext.size;simp;omega
      have ew:=hid dW;have io:Hid ((v2.alloc (.cells #[.int .i64 2,.int .i64 (a:Int),str t] 122)).ownsRow w.heap.size 122 3 (.slice At ts.length ct) ts.length (C7 ts)):=hid (Aj eA.out.row (fun g _ hg=>Below.heap_alloc _ _ g hg));have fF:=hid (RE v2 122 (.int .i64 2) (.int .i64 (a:Int)) (str t));have cx:IntKind.i64.wrap ((a:Int)+(t.length:Int))=(a:Int)+(t.length:Int):=IntWalk.i64_in _ (by omega);clear al hb2 dW;go_wp2_with (at_builtin;go_must (refine wpList_append_own _ rfl _ _ 115 rfl w.heap.size 122 i0 _ 3 32 Tryz.underlying115 hi aE hz1 ba rfl (by decide) _ ts.length (C7 ts) rfl io.out ⟨v2.heap.size,0,none⟩ 1 1 [.int .i64 2,.int .i64 (a:Int),str t] rfl rfl fF.out (by simp[Value.oneCell',str]) dE.out dD.out ew.out ?_;intro v' w' aG aQ _;have HD:=hid (eA.out.done _ pD aG aQ);obtain⟨A',c',rfl⟩:=AN aG;have m0:=HD.out.1.three;clear aG aQ));go_wp2_with fail;have oE:=hid (pe.out _ HD.out.2.2)
      go_roundg (l.length-(a+n))
      case rel=>exact⟨a+n,ts++[⟨2,a,t⟩],_,rfl,rfl,by go_num,by omega,by rw[List.length_append,List.length_singleton];omega,HD.out.2.1,HD.out.2.2,oE.out,by rw[pK.out,<-iF.out];exact fy.out⟩
      case measure=>rw[jb.out];omega
  ·obtain rfl:a=l.length:=by omega
   have HR:Hid (Bj l=(ts,l.length,0)):=hid (by rw[<-fy.out];exact Ng (Nat.le_refl _));clear nH;go_wp2_with fail;go_ret3;refine⟨_,by rw[HR.out];rfl,?_,HX.out⟩;rw[HR.out];exact iO.out
theorem Nr(w:World)(l:List UInt8)(h:400<l.length):Calls Tryz.prog 65 #[str l] w (IS w l):=by
 have hc:Bj l=([],0,7):=if_pos h;have h':(400:Int)<(l.length:Int):=by omega
 have HC:=hid hc;clear h hc;go_enter Tryz.func65,Tryz.ntmps65;go_wp2_with fail;go_ret3;exact⟨.slice none 0 0,by rw[HC.out];rfl,by rw[HC.out];exact⟨rfl,.inl ⟨rfl,rfl⟩⟩,Ext.refl w⟩
theorem Pu(w:World)(l:List UInt8)(hm:Ce w):Calls Tryz.prog 65 #[str l] w (IS w l):=by
 rcases Nat.lt_or_ge 400 l.length with hl|hl
 ·exact Nr w l hl
 ·exact LX w l hm hl
def Ge(w:World)(v:Value)(ts:List Tok):Prop:=∃B,w.ownsRow B 122 3 v ts.length (C7 ts)
theorem Hb(ts:List Tok)(i j:Nat)(hi:i<ts.length)(hj:j<3):(C7 ts)[i*3+j]? =(SX ts[i])[j]? :=by
 induction ts generalizing i with
 |nil=>simp at hi
 |cons t ts ih=>
  have hl:(SX t).length=3:=rfl;unfold C7 at *;rw[List.flatMap_cons];cases i with
  |zero=>
   rw[Nat.zero_mul,Nat.zero_add,List.getElem?_append_left (by omega)];rfl
  |succ i=>
   rw[List.getElem?_append_right (by omega),hl,show (i+1)*3+j-3=i*3+j by omega,ih i (by simpa using hi)];rfl
theorem Ge.cells{w:World}{v:Value}{ts:List Tok}(h:Ge w v ts):∃A c,v= .slice A ts.length c/\(0<ts.length->∃g,A=some ⟨g,0,none⟩/\∀i (hi:i<ts.length),w.cell? ⟨g,i*3,none⟩=some (.int .i64 (ts[i].kind:Int))/\w.cell? ⟨g,i*3+1,none⟩=some (.int .i64 (ts[i].at_:Int))/\w.cell? ⟨g,i*3+2,none⟩=some (str ts[i].text)):=by
 obtain⟨B,h⟩:=h;rcases h.2 with ⟨h1,h2⟩|⟨g,cap,cur,rfl,_⟩
 ·exact⟨none,0,by rw[h1,h2],fun h3=>by omega⟩
 ·refine⟨_,_,rfl,fun _=>⟨g,rfl,fun i hi=>⟨?_,?_,?_⟩⟩⟩
  ·have h3:=h.cellAt (i*3+0) (by omega);rw[Hb ts i 0 hi (by omega)]at h3;exact h3
  ·have h3:=h.cellAt (i*3+1) (by omega);rw[Hb ts i 1 hi (by omega)]at h3;exact h3
  ·have h3:=h.cellAt (i*3+2) (by omega);rw[Hb ts i 2 hi (by omega)]at h3;exact h3
end Big
end Go.Proofs.YtkoaogkknnelaaaGreatDoor
