import Derived.Test.YtkoaogkknnelaaaGreatDoorM18
import Derived.Test.YtkoaogkknnelaaaGreatDoorM16
import Derived.Laws.StructEq
set_option linter.unusedVariables false
set_option linter.unusedSimpArgs false
set_option maxHeartbeats 4000000
set_option maxRecDepth 100000
namespace Go.Proofs.YtkoaogkknnelaaaGreatDoor
namespace Big
open Lib renaming hid → J
open Go.RowKit
theorem Sl(w:World)(ty:TypeId)(x y z:Value):∀(j:Nat) (u:Value),[x,y,z][j]? =some u->(w.alloc (.cells #[x,y,z] ty)).cell? ((⟨w.heap.size,0,none⟩:Addr).add j)=some u:=fun j u hj=>by
 have h1:=(Blk.new w ty #[x,y,z]).cell j;have h2:(⟨w.heap.size,0,none⟩:Addr).add j=⟨w.heap.size,j,none⟩:=by
  unfold Addr.add;split
  ·rename_i h;subst h;rfl
  ·simp
 rw[h2,h1,<-hj];simp
theorem Od{w:World}{base:Nat}{e:TypeId}{size n:Nat}{v:Value}{xs:List Value}(h:w.ownsRow base e size v n xs):∀k,v.ownBlock=some k->k<w.heap.size:=by
 obtain⟨h1,h2⟩:=h;rcases h2 with ⟨rfl,_⟩|⟨g,cap,cur,rfl,hg,hh,_⟩
 ·intro k hk;simp[Value.ownBlock]at hk
 ·intro k hk;simp only[Value.ownBlock,qaw]at hk;subst hk;rcases qam g w.heap.size with h|h
  ·exact h
  ·rw[qba h]at hh;cases hh
def Ro(w wr:World)(l:List UInt8)(a:Nat)(ts:List Tok)(tv:Value):Prop:=
 ts.length<=a/\wr.ownsRow w.heap.size 122 3 tv ts.length (Dk ts)/\Ext w wr/\BT wr/\Dw l a ts=Bj l
structure Ie (w wr W:World) (a k:Nat) (t:List UInt8) (ts:List Tok) (tv:Value):Prop where
 blk:Blk W wr.heap.size 122 #[.int .i64 (k:Int),.int .i64 (a:Int),str t]
 row:W.ownsRow w.heap.size 122 3 tv ts.length (Dk ts)
 own:∀b,tv.ownBlock=some b->w.heap.size<=b/\b<wr.heap.size
 ext:Ext w W
theorem Ie.start{w wr:World}{a k:Nat}{t:List UInt8}{ts:List Tok}{tv:Value}(hx:Ext w wr)(hr:wr.ownsRow w.heap.size 122 3 tv ts.length (Dk ts)):
  Ie w wr (wr.alloc (.cells #[.int .i64 (k:Int),.int .i64 (a:Int),str t] 122)).drew a k t ts tv:=
 ⟨(Blk.new wr _ _).drew,Ac hr (fun g _ hg=>Below.heap_alloc _ _ g hg),fun b hb=>And.intro (Ay hr b hb) (Od hr b hb),(hx.alloc (.cells #[.int .i64 (k:Int),.int .i64 (a:Int),str t] 122)).drewN 1⟩
theorem Ie.more{w wr W W':World}{a k:Nat}{t:List UInt8}{ts:List Tok}{tv:Value}(h:Ie w wr W a k t ts tv)(hx:Ext W W'):Ie w wr W' a k t ts tv:=
 ⟨h.blk.ext hx,Ac h.row (fun g _ hg=>Below.block hx g hg),h.own,h.ext.trans hx⟩
theorem Ie.done {w wr W W':World} {a k:Nat} {t:List UInt8} {ts:List Tok} {tv v':Value} (h:Ie w wr W a k t ts tv) (ho:Obj) (hg:wr.heap.size<W.heap.size)
  (ac:W'.ownsRow w.heap.size 122 3 v' (ts.length+1) (Dk ts++[.int .i64 (k:Int),.int .i64 (a:Int),str t])) (hgr:(W.alloc ho).grownBy W' tv.ownBlock):
  Blk W' wr.heap.size 122 #[.int .i64 (k:Int),.int .i64 (a:Int),str t]/\W'.ownsRow w.heap.size 122 3 v' (ts++[(⟨k,a,t⟩:Tok)]).length (Dk (ts++[(⟨k,a,t⟩:Tok)]))/\Ext w W':=by
 refine⟨?_,?_,?_⟩
 ·have h1:=hgr.block wr.heap.size (show wr.heap.size<(W.alloc ho).heap.size by simp;omega) (fun e=>by have:=(h.own _ e.symm).2;omega);exact h1.trans (h.blk.alloc ho)
 ·rw[NF,qab,qae];exact ac
 ·exact(h.ext.alloc ho).grown hgr (fun b hb=>(h.own b hb).1)
theorem Ud{l:List UInt8}{a n:Nat}(_h:a+n<=l.length):(l.take ((a:Int)+(n:Int)).toNat).drop a=(l.drop a).take n:=by
 rw[show ((a:Int)+(n:Int)).toNat=a+n by omega,List.drop_take,qbq]
theorem Mk(w:World)(l:List UInt8)(hm:BT w)(hl:l.length<=400):Calls Tryz.prog 65 #[str l] w (IU w l):=by
 have HM:=J hm;have HT:Hid (Dw l 0 []=Bj l):=J (by unfold Bj Dw;rw[if_neg (by omega)]);have xI:¬(400:Int)<(l.length:Int):=by omega
 have jI:=J (fun W hx=>HM.o.ext (w':=W) hx);obtain⟨i0,hi,aR,hz1,aU⟩:=info_parts Sx;clear hm;go_enter Tryz.func65,Tryz.ntmps65;go_wp2_with fail
 go_loopg [5,6] l.length (fun gh s5 s6 wr=>∃(a:Nat) (ts:List Tok) (tv:Value),gh=l.length-a/\s5=tv/\s6= .int .i64 (a:Int)/\a<=l.length/\Ro w wr l a ts tv)
 case atStart=>exact⟨0,[],_,rfl,rfl,rfl,qal _,qad _,⟨rfl,.inl ⟨rfl,rfl⟩⟩,Ext.refl w,HM.o,HT.o⟩
 case round=>
  obtain⟨a,ts,tv,iT,rfl,rfl,hal,gT,au,hx,lX,pW⟩:=hrel;have fo:=J iT;have aS:=J pW;have HX:=J hx;have i6:=J au;obtain⟨At,ct,ZB⟩:=Ao au;subst ZB;clear iT pW hx HT au;by_cases hlt:a<l.length
  ·have mG:=OZ hlt;have eM:=CL l a;have bD:=J (fun W=>In W (Ad l a) eM);have i9:=J (fun W=>Gz W (Ad l a) eM);have r7:=J (fun W=>P4 W (Ad l a) eM);have ah:=J (HX.o.alloc (.cells #[.int .i64 0,.int .i64 (a:Int),.string ⟨#[]⟩] 122));have aA:=J (Blk.new wr 122 #[.int .i64 0,.int .i64 (a:Int),.string ⟨#[]⟩]);have ea:=HX.o.size;by_cases h32:Ad l a=32
   ·have cV:=J (Lk (ts:=ts) hlt (mG.2 h32));have VV:((Ad l a:Int) == 32)=true:=by rw[h32];rfl
    have WL:=J (jI.o _ ah.o);clear mG h32 lX;go_wp2_with fail
    go_roundg (l.length-(a+1))
    case rel=>exact⟨a+1,ts,_,rfl,rfl,by go_num,by omega,by omega,Ac i6.o (fun g _ hg=>Below.heap_alloc _ _ g hg),ah.o,WL.o,by rw[<-cV.o];exact aS.o⟩
    case measure=>rw[fo.o];omega
   ·have VV:((Ad l a:Int) == 32)=false:=by rw[beq_eq_false_iff_ne];omega
    have gD:l[a]?≠some 32:=fun h=>h32 (mG.1 h)
    have ha0:(0:Int)<=(a:Int):=by omega
    have qM:(a:Int)<=(l.length:Int):=by omega
    clear mG h32 lX;cases hlet:Ej (Ad l a)
    ·rw[hlet]at bD;cases hdig:Dp (Ad l a)
     ·rw[hdig]at i9;have gU:=Rs hlt hlet hdig;cases hsg:Gp (Ad l a)
      ·rw[hsg]at gU r7;have HR:Hid (Bj l=([],a,6)):=J (by rw[<-aS.o];exact FE hlt gD gU);clear gU gD hlet hdig hsg;go_wp2_with fail;refine(bD.o _).mono ?_
       rintro e w2 ⟨rfl,rfl⟩;go_wp2_with fail;refine(i9.o _).mono ?_
       rintro e w2 ⟨rfl,rfl⟩;go_wp2_with fail;refine(r7.o _).mono ?_
       rintro e w2 ⟨rfl,rfl⟩;go_wp2_with fail;go_ret3;exact⟨_,by rw[HR.o];rfl,by rw[HR.o];exact⟨rfl,.inl ⟨rfl,rfl⟩⟩,ah.o⟩
      ·rw[hsg]at gU r7;have cV:=J (FD (ts:=ts) hlt gD gU);have aB:IntKind.i64.wrap ((a:Int)+1)=(a:Int)+1:=IntWalk.i64_in _ (by omega);have lA:(0:Int)<=(a:Int)+1:=by omega
       have vc:(a:Int)+1<=(l.length:Int):=by omega
       have Yf:(a:Int)<=(a:Int)+1:=by omega
       have k0:=aA.o.three;have k7:Hid ((l.take (a+1)).drop a=(l.drop a).take 1):=J (by rw[List.drop_take,qbq]);clear gU gD hlet hdig hsg;go_wp2_with fail;refine(bD.o _).mono ?_
       rintro e w2 ⟨rfl,rfl⟩;go_wp2_with fail;refine(i9.o _).mono ?_
       rintro e w2 ⟨rfl,rfl⟩;go_wp2_with fail;refine(r7.o _).mono ?_
       rintro e w2 ⟨rfl,rfl⟩;go_wp2_with fail
       go_region_law (fail)
       have jb:(List.drop a (List.take (a+1) l)).length=1:=by rw[k7.o,qas,qaU];omega
       have dK:Hid (Ie w wr _ a 3 (List.drop a (List.take (a+1) l)) ts (.slice At ts.length ct)):=J (Ie.start HX.o i6.o);rw[show ((3:Nat):Int)=3 from rfl]at dK;have qG:wr.heap.size<(wr.alloc (.cells #[.int .i64 3,.int .i64 (a:Int),str (List.drop a (List.take (a+1) l))] 122)).drew.heap.size:=by simp
       generalize (wr.alloc (.cells #[.int .i64 3,.int .i64 (a:Int),str (List.drop a (List.take (a+1) l))] 122)).drew=v2 at *;generalize List.drop a (List.take (a+1) l)=t at *;clear k0;have qU:=J jb;have k0:=dK.o.blk.three;have rq:ts.length<=400:=by omega
       have av:ts.length+1<=maxLen:=by unfold maxLen;omega
       have hb2:(ts.length+1)*32<=140737488355328:=by omega
       have aI:=J av;have aH:=J hb2;have eV:w.heap.size<=(v2.alloc (.cells #[.int .i64 3,.int .i64 (a:Int),str t] 122)).heap.size:=by have:=dK.o.ext.size;simp;omega
       have aO:=J eV;have dt:Hid ((v2.alloc (.cells #[.int .i64 3,.int .i64 (a:Int),str t] 122)).ownsRow w.heap.size 122 3 (.slice At ts.length ct) ts.length (Dk ts)):=J (Ac dK.o.row (fun g _ hg=>Below.heap_alloc _ _ g hg));have a9:=J (Sl v2 122 (.int .i64 3) (.int .i64 (a:Int)) (str t));have aY:IntKind.i64.wrap ((a:Int)+(t.length:Int))=(a:Int)+(t.length:Int):=IntWalk.i64_in _ (by omega);clear av hb2 eV;go_wp2_with (at_builtin;go_must (refine wpList_append_own _ rfl _ _ 115 rfl w.heap.size 122 i0 _ 3 32 Tryz.underlying115 hi aR hz1 aU rfl (by decide) _ ts.length (Dk ts) rfl dt.o ⟨v2.heap.size,0,none⟩ 1 1 [.int .i64 3,.int .i64 (a:Int),str t] rfl rfl a9.o (by simp[Value.oneCell',str]) aI.o aH.o aO.o ?_;intro v' w' ac hgr _;have HD:=J (dK.o.done _ qG ac hgr);obtain⟨A',c',rfl⟩:=Ao ac;have m0:=HD.o.1.three;clear ac hgr));go_wp2_with fail;have pA:=J (jI.o _ HD.o.2.2)
       go_roundg (l.length-(a+1))
       case rel=>exact⟨a+1,ts++[⟨3,a,t⟩],_,rfl,rfl,by go_num,by omega,by rw[qab,qae];omega,HD.o.2.1,HD.o.2.2,pA.o,by rw[k7.o,<-cV.o];exact aS.o⟩
       case measure=>rw[fo.o];omega
     ·rw[hdig]at i9;have gU:=PN hlt hlet hdig;have cr:=J (fun W=>Mn W (l.drop a) (by rw[qaU];omega));have zj:=Dx Cw (l.drop a);rw[qaU]at zj;have mH:0<An Cw (l.drop a):=Gy (by rw[qaU];omega) (by rw[FY,qbc];unfold Cw;rw[hdig];rfl);generalize An Cw (l.drop a)=n at *;have aB:IntKind.i64.wrap ((a:Int)+(n:Int))=(a:Int)+(n:Int):=IntWalk.i64_in _ (by omega);have lA:(0:Int)<=(a:Int)+(n:Int):=by omega
      have vc:(a:Int)+(n:Int)<=(l.length:Int):=by omega
      have Yf:(a:Int)<=(a:Int)+(n:Int):=by omega
      have k0:=aA.o.three;have k7:=J (Ud (l:=l) (a:=a) (n:=n) (by omega));go_wp2_with fail;refine(bD.o _).mono ?_
      rintro e w2 ⟨rfl,rfl⟩;go_wp2_with fail;refine(i9.o _).mono ?_
      rintro e w2 ⟨rfl,rfl⟩;go_wp2_with fail
      go_region_law (go_simp;go_at_call 125;refine(cr.o _).mono ?_;rintro e w3 ⟨rfl,rfl⟩)
      rw[<-k7.o]at gU;have jb:(List.drop a (List.take ((a:Int)+(n:Int)).toNat l)).length=n:=by rw[k7.o,qas,qaU];omega
      have dK:Hid (Ie w wr _ a 1 (List.drop a (List.take ((a:Int)+(n:Int)).toNat l)) ts (.slice At ts.length ct)):=J (Ie.start HX.o i6.o);rw[show ((1:Nat):Int)=1 from rfl]at dK;have qG:wr.heap.size<(wr.alloc (.cells #[.int .i64 1,.int .i64 (a:Int),str (List.drop a (List.take ((a:Int)+(n:Int)).toNat l))] 122)).drew.heap.size:=by simp
      generalize (wr.alloc (.cells #[.int .i64 1,.int .i64 (a:Int),str (List.drop a (List.take ((a:Int)+(n:Int)).toNat l))] 122)).drew=v2 at *;generalize List.drop a (List.take ((a:Int)+(n:Int)).toNat l)=t at *;clear k0;have q0:=dK.o.blk.three;have qU:=J jb;have HP:=J (fun W=>Il W t);by_cases hc0:Bz t=0
      ·rw[if_pos hc0]at gU;have cV:=J (FD (ts:=ts) hlt gD gU);have HC:=J hc0;clear gU gD hlet hdig hc0;go_wp2_with fail;refine(HP.o _).mono ?_
       rintro e w5 ⟨v5,rfl,bA,hx5⟩;obtain⟨b5,n5,A5,c5,n6,A6,c6,rfl⟩:=bA.shape;have lK:=J (dK.o.more (hx5.alloc (.cells #[.bool b5,.slice A5 n5 c5,.slice A6 n6 c6] 26)));have dO:wr.heap.size<(w5.alloc (.cells #[.bool b5,.slice A5 n5 c5,.slice A6 n6 c6] 26)).heap.size:=by have:=hx5.size;simp;omega
       clear bA hx5 q0;rw[HC.o];go_upto_region 18 with fail;generalize w5.alloc (.cells #[.bool b5,.slice A5 n5 c5,.slice A6 n6 c6] 26)=v3 at *;have k0:=lK.o.blk.three;have rq:ts.length<=400:=by omega
       have av:ts.length+1<=maxLen:=by unfold maxLen;omega
       have hb2:(ts.length+1)*32<=140737488355328:=by omega
       have aI:=J av;have aH:=J hb2;have eV:w.heap.size<=(v3.alloc (.cells #[.int .i64 1,.int .i64 (a:Int),str t] 122)).heap.size:=by have:=lK.o.ext.size;simp;omega
       have aO:=J eV;have dt:Hid ((v3.alloc (.cells #[.int .i64 1,.int .i64 (a:Int),str t] 122)).ownsRow w.heap.size 122 3 (.slice At ts.length ct) ts.length (Dk ts)):=J (Ac lK.o.row (fun g _ hg=>Below.heap_alloc _ _ g hg));have a9:=J (Sl v3 122 (.int .i64 1) (.int .i64 (a:Int)) (str t));have aY:IntKind.i64.wrap ((a:Int)+(t.length:Int))=(a:Int)+(t.length:Int):=IntWalk.i64_in _ (by omega);clear av hb2 eV;go_wp2_with (at_builtin;go_must (refine wpList_append_own _ rfl _ _ 115 rfl w.heap.size 122 i0 _ 3 32 Tryz.underlying115 hi aR hz1 aU rfl (by decide) _ ts.length (Dk ts) rfl dt.o ⟨v3.heap.size,0,none⟩ 1 1 [.int .i64 1,.int .i64 (a:Int),str t] rfl rfl a9.o (by simp[Value.oneCell',str]) aI.o aH.o aO.o ?_;intro v' w' ac hgr _;have HD:=J (lK.o.done _ dO ac hgr);obtain⟨A',c',rfl⟩:=Ao ac;have m0:=HD.o.1.three;clear ac hgr));go_wp2_with fail;have pA:=J (jI.o _ HD.o.2.2)
       go_roundg (l.length-(a+n))
       case rel=>exact⟨a+n,ts++[⟨1,a,t⟩],_,rfl,rfl,by go_num,by omega,by rw[qab,qae];omega,HD.o.2.1,HD.o.2.2,pA.o,by rw[k7.o,<-cV.o];exact aS.o⟩
       case measure=>rw[fo.o];omega
      ·rw[if_neg hc0]at gU;have HR:Hid (Bj l=([],a,6)):=J (by rw[<-aS.o];exact FE hlt gD gU);have tE:((Bz t:Int) != 0)=true:=by rw[bne_iff_ne];omega
       clear gU gD hlet hdig hc0;go_wp2_with fail;refine(HP.o _).mono ?_
       rintro e w5 ⟨v5,rfl,bA,hx5⟩;obtain⟨b5,n5,A5,c5,n6,A6,c6,rfl⟩:=bA.shape;have lK:=J (dK.o.more (hx5.alloc (.cells #[.bool b5,.slice A5 n5 c5,.slice A6 n6 c6] 26)));have dO:wr.heap.size<(w5.alloc (.cells #[.bool b5,.slice A5 n5 c5,.slice A6 n6 c6] 26)).heap.size:=by have:=hx5.size;simp;omega
       clear bA hx5 q0;go_wp2_with fail;go_ret3;exact⟨_,by rw[HR.o];rfl,by rw[HR.o];exact⟨rfl,.inl ⟨rfl,rfl⟩⟩,lK.o.ext⟩
    ·rw[hlet]at bD;have gU:=NG hlt hlet;have fQ:Bm (l.drop a)=An BU (l.drop a):=by
      unfold Bm;rw[if_pos (by rw[FY,qbc];exact hlet)]
     have cr:=J (fun W=>Kx W (l.drop a) (by rw[qaU];omega));rw[fQ]at cr;have zj:=Dx BU (l.drop a);rw[qaU]at zj;have mH:0<An BU (l.drop a):=Gy (by rw[qaU];omega) (by rw[FY,qbc];unfold BU;rw[hlet];rfl);clear fQ;generalize An BU (l.drop a)=n at *;have aB:IntKind.i64.wrap ((a:Int)+(n:Int))=(a:Int)+(n:Int):=IntWalk.i64_in _ (by omega);have lA:(0:Int)<=(a:Int)+(n:Int):=by omega
     have vc:(a:Int)+(n:Int)<=(l.length:Int):=by omega
     have Yf:(a:Int)<=(a:Int)+(n:Int):=by omega
     have k0:=aA.o.three;have k7:=J (Ud (l:=l) (a:=a) (n:=n) (by omega));go_wp2_with fail;refine(bD.o _).mono ?_
     rintro e w2 ⟨rfl,rfl⟩;go_wp2_with fail
     go_region_law (go_simp;go_at_call 123;refine(cr.o _).mono ?_;rintro e w3 ⟨rfl,rfl⟩)
     have jb:(List.drop a (List.take ((a:Int)+(n:Int)).toNat l)).length=n:=by rw[k7.o,qas,qaU];omega
     have dK:Hid (Ie w wr _ a 2 (List.drop a (List.take ((a:Int)+(n:Int)).toNat l)) ts (.slice At ts.length ct)):=J (Ie.start HX.o i6.o);rw[show ((2:Nat):Int)=2 from rfl]at dK;have qG:wr.heap.size<(wr.alloc (.cells #[.int .i64 2,.int .i64 (a:Int),str (List.drop a (List.take ((a:Int)+(n:Int)).toNat l))] 122)).drew.heap.size:=by simp
     generalize (wr.alloc (.cells #[.int .i64 2,.int .i64 (a:Int),str (List.drop a (List.take ((a:Int)+(n:Int)).toNat l))] 122)).drew=v2 at *;generalize List.drop a (List.take ((a:Int)+(n:Int)).toNat l)=t at *;clear k0;have q0:=dK.o.blk.three;have qU:=J jb;rcases qam 24 n with h24|h24
     ·rw[if_neg (by omega)]at gU;have HR:Hid (Bj l=([],a,6)):=J (by rw[<-aS.o];exact FE hlt gD gU);have Wd:(24:Int)<(t.length:Int):=by omega
      clear gU gD hlet jb;go_wp2_with fail;go_ret3;exact⟨_,by rw[HR.o];rfl,by rw[HR.o];exact⟨rfl,.inl ⟨rfl,rfl⟩⟩,dK.o.ext⟩
     ·rw[if_pos h24]at gU;have cV:=J (FD (ts:=ts) hlt gD gU);have Wd:¬(24:Int)<(t.length:Int):=by omega
      clear gU gD hlet q0;have k0:=dK.o.blk.three;have rq:ts.length<=400:=by omega
      have av:ts.length+1<=maxLen:=by unfold maxLen;omega
      have hb2:(ts.length+1)*32<=140737488355328:=by omega
      have aI:=J av;have aH:=J hb2;have eV:w.heap.size<=(v2.alloc (.cells #[.int .i64 2,.int .i64 (a:Int),str t] 122)).heap.size:=by have:=dK.o.ext.size;simp;omega
      have aO:=J eV;have dt:Hid ((v2.alloc (.cells #[.int .i64 2,.int .i64 (a:Int),str t] 122)).ownsRow w.heap.size 122 3 (.slice At ts.length ct) ts.length (Dk ts)):=J (Ac dK.o.row (fun g _ hg=>Below.heap_alloc _ _ g hg));have a9:=J (Sl v2 122 (.int .i64 2) (.int .i64 (a:Int)) (str t));have aY:IntKind.i64.wrap ((a:Int)+(t.length:Int))=(a:Int)+(t.length:Int):=IntWalk.i64_in _ (by omega);clear av hb2 eV;go_wp2_with (at_builtin;go_must (refine wpList_append_own _ rfl _ _ 115 rfl w.heap.size 122 i0 _ 3 32 Tryz.underlying115 hi aR hz1 aU rfl (by decide) _ ts.length (Dk ts) rfl dt.o ⟨v2.heap.size,0,none⟩ 1 1 [.int .i64 2,.int .i64 (a:Int),str t] rfl rfl a9.o (by simp[Value.oneCell',str]) aI.o aH.o aO.o ?_;intro v' w' ac hgr _;have HD:=J (dK.o.done _ qG ac hgr);obtain⟨A',c',rfl⟩:=Ao ac;have m0:=HD.o.1.three;clear ac hgr));go_wp2_with fail;have pA:=J (jI.o _ HD.o.2.2)
      go_roundg (l.length-(a+n))
      case rel=>exact⟨a+n,ts++[⟨2,a,t⟩],_,rfl,rfl,by go_num,by omega,by rw[qab,qae];omega,HD.o.2.1,HD.o.2.2,pA.o,by rw[k7.o,<-cV.o];exact aS.o⟩
      case measure=>rw[fo.o];omega
  ·obtain rfl:a=l.length:=by omega
   have HR:Hid (Bj l=(ts,l.length,0)):=J (by rw[<-aS.o];exact NR (qad _));clear lX;go_wp2_with fail;go_ret3;refine⟨_,by rw[HR.o];rfl,?_,HX.o⟩;rw[HR.o];exact i6.o
theorem NV(w:World)(l:List UInt8)(h:400<l.length):Calls Tryz.prog 65 #[str l] w (IU w l):=by
 have hc:Bj l=([],0,7):=if_pos h;have h':(400:Int)<(l.length:Int):=by omega
 have HC:=J hc;clear h hc;go_enter Tryz.func65,Tryz.ntmps65;go_wp2_with fail;go_ret3;exact⟨.slice none 0 0,by rw[HC.o];rfl,by rw[HC.o];exact⟨rfl,.inl ⟨rfl,rfl⟩⟩,Ext.refl w⟩
theorem P5(w:World)(l:List UInt8)(hm:BT w):Calls Tryz.prog 65 #[str l] w (IU w l):=by
 rcases qam 400 l.length with hl|hl
 ·exact NV w l hl
 ·exact Mk w l hm hl
def GJ(w:World)(v:Value)(ts:List Tok):Prop:=∃B,w.ownsRow B 122 3 v ts.length (Dk ts)
theorem Ho(ts:List Tok)(i j:Nat)(hi:i<ts.length)(hj:j<3):(Dk ts)[i*3+j]? =(Te ts[i])[j]? :=by
 induction ts generalizing i with
 |nil=>simp at hi
 |cons t ts ih=>
  have hl:(Te t).length=3:=rfl;unfold Dk at *;rw[qbM];cases i with
  |zero=>
   rw[Nat.zero_mul,qaF,qaC (by omega)];rfl
  |succ i=>
   rw[qao (by omega),hl,show (i+1)*3+j-3=i*3+j by omega,ih i (by simpa using hi)];rfl
theorem GJ.cells{w:World}{v:Value}{ts:List Tok}(h:GJ w v ts):∃A c,v= .slice A ts.length c/\(0<ts.length->∃g,A=some ⟨g,0,none⟩/\∀i (hi:i<ts.length),w.cell? ⟨g,i*3,none⟩=some (.int .i64 (ts[i].kind:Int))/\w.cell? ⟨g,i*3+1,none⟩=some (.int .i64 (ts[i].at_:Int))/\w.cell? ⟨g,i*3+2,none⟩=some (str ts[i].text)):=by
 obtain⟨B,h⟩:=h;rcases h.2 with ⟨h1,h2⟩|⟨g,cap,cur,rfl,_⟩
 ·exact⟨none,0,by rw[h1,h2],fun h3=>by omega⟩
 ·refine⟨_,_,rfl,fun _=>⟨g,rfl,fun i hi=>⟨?_,?_,?_⟩⟩⟩
  ·have h3:=h.cellAt (i*3+0) (by omega);rw[Ho ts i 0 hi (by omega)]at h3;exact h3
  ·have h3:=h.cellAt (i*3+1) (by omega);rw[Ho ts i 1 hi (by omega)]at h3;exact h3
  ·have h3:=h.cellAt (i*3+2) (by omega);rw[Ho ts i 2 hi (by omega)]at h3;exact h3
theorem GJ.of{w:World}{B:Nat}{v:Value}{ts:List Tok}(h:w.ownsRow B 122 3 v ts.length (Dk ts)):GJ w v ts:=⟨B,h⟩
theorem P0(f:Nat)(l:List UInt8):∀(a:Nat) (ts:List Tok),ts.length<=a->(DS f l a ts).1.length<=a+f*(l.length+1):=by
 induction f with
 |zero=>intro a ts _;simp[DS]
 |succ f ih=>
  intro a ts h;rw[qbm,qbC];unfold DS;split
  ·simp;omega
  ·split
   ·have:=ih (a+1) ts (by omega);omega
   ·split
    ·simp
    ·rename_i k n ht;have h1:=E6 ht;rw[qaU]at h1;have:=ih (a+n) (ts++[⟨k,a,(l.drop a).take n⟩]) (by rw[qab,qae];omega);omega
theorem PZ(l:List UInt8):(Bj l).1.length<=1000000:=by
 unfold Bj;split
 ·simp
 ·have:=P0 (l.length+1) l 0 [] (by simp);have h2:(l.length+1)*(l.length+1)<=401*401:=Nat.mul_le_mul (by omega) (by omega);omega
theorem Dr.ext{w w':World}(h:Dr w w'):Ext w w':=h.below w.heap.size
end Big
end Go.Proofs.YtkoaogkknnelaaaGreatDoor
