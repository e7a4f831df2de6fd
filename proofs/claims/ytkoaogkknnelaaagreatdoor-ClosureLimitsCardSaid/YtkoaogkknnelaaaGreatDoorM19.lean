import Derived.Test.YtkoaogkknnelaaaGreatDoorM18
import Derived.Test.YtkoaogkknnelaaaGreatDoorM16
import Derived.Laws.StructEq
set_option linter.unusedVariables false
set_option linter.unusedSimpArgs false
set_option maxHeartbeats 4000000
set_option maxRecDepth 100000
namespace Go.Proofs.YtkoaogkknnelaaaGreatDoor
namespace Big
open Lib renaming hid → J
open Go.RowKit
theorem Rx(w:World)(ty:TypeId)(x y z:Value):∀(j:Nat) (u:Value),[x,y,z][j]? =some u->(w.alloc (.cells #[x,y,z] ty)).cell? ((⟨w.heap.size,0,none⟩:Addr).add j)=some u:=fun j u hj=>by
 have h1:=(Blk.new w ty #[x,y,z]).cell j;have h2:(⟨w.heap.size,0,none⟩:Addr).add j=⟨w.heap.size,j,none⟩:=by
  unfold Addr.add;split
  ·rename_i h;subst h;rfl
  ·simp
 rw[h2,h1,<-hj];simp
theorem NZ{w:World}{base:Nat}{e:TypeId}{size n:Nat}{v:Value}{xs:List Value}(h:w.ownsRow base e size v n xs):∀k,v.ownBlock=some k->k<w.heap.size:=by
 obtain⟨h1,h2⟩:=h;rcases h2 with ⟨rfl,_⟩|⟨g,cap,cur,rfl,hg,hh,_⟩
 ·intro k hk;simp[Value.ownBlock]at hk
 ·intro k hk;simp only[Value.ownBlock,Option.some.injEq]at hk;subst hk;rcases Nat.lt_or_ge g w.heap.size with h|h
  ·exact h
  ·rw[Array.getElem?_eq_none h]at hh;cases hh
def QS(w wr:World)(l:List UInt8)(a:Nat)(ts:List Tok)(tv:Value):Prop:=
 ts.length<=a/\wr.ownsRow w.heap.size 122 3 tv ts.length (Dq ts)/\Ext w wr/\BC wr/\DG l a ts=Bh l
structure Ig (w wr W:World) (a k:Nat) (t:List UInt8) (ts:List Tok) (tv:Value):Prop where
 blk:Blk W wr.heap.size 122 #[.int .i64 (k:Int),.int .i64 (a:Int),str t]
 row:W.ownsRow w.heap.size 122 3 tv ts.length (Dq ts)
 own:∀b,tv.ownBlock=some b->w.heap.size<=b/\b<wr.heap.size
 ext:Ext w W
theorem Ig.start{w wr:World}{a k:Nat}{t:List UInt8}{ts:List Tok}{tv:Value}(hx:Ext w wr)(hr:wr.ownsRow w.heap.size 122 3 tv ts.length (Dq ts)):
  Ig w wr (wr.alloc (.cells #[.int .i64 (k:Int),.int .i64 (a:Int),str t] 122)).drew a k t ts tv:=
 ⟨(Blk.new wr _ _).drew,Ad hr (fun g _ hg=>Below.heap_alloc _ _ g hg),fun b hb=>And.intro (AC hr b hb) (NZ hr b hb),(hx.alloc (.cells #[.int .i64 (k:Int),.int .i64 (a:Int),str t] 122)).drewN 1⟩
theorem Ig.more{w wr W W':World}{a k:Nat}{t:List UInt8}{ts:List Tok}{tv:Value}(h:Ig w wr W a k t ts tv)(hx:Ext W W'):Ig w wr W' a k t ts tv:=
 ⟨h.blk.ext hx,Ad h.row (fun g _ hg=>Below.block hx g hg),h.own,h.ext.trans hx⟩
theorem Ig.done {w wr W W':World} {a k:Nat} {t:List UInt8} {ts:List Tok} {tv v':Value} (h:Ig w wr W a k t ts tv) (ho:Obj) (hg:wr.heap.size<W.heap.size)
  (ag:W'.ownsRow w.heap.size 122 3 v' (ts.length+1) (Dq ts++[.int .i64 (k:Int),.int .i64 (a:Int),str t])) (al:(W.alloc ho).grownBy W' tv.ownBlock):
  Blk W' wr.heap.size 122 #[.int .i64 (k:Int),.int .i64 (a:Int),str t]/\W'.ownsRow w.heap.size 122 3 v' (ts++[(⟨k,a,t⟩:Tok)]).length (Dq (ts++[(⟨k,a,t⟩:Tok)]))/\Ext w W':=by
 refine⟨?_,?_,?_⟩
 ·have h1:=al.block wr.heap.size (show wr.heap.size<(W.alloc ho).heap.size by simp;omega) (fun e=>by have:=(h.own _ e.symm).2;omega);exact h1.trans (h.blk.alloc ho)
 ·rw[Np,List.length_append,List.length_singleton];exact ag
 ·exact(h.ext.alloc ho).grown al (fun b hb=>(h.own b hb).1)
theorem TI{l:List UInt8}{a n:Nat}(_h:a+n<=l.length):(l.take ((a:Int)+(n:Int)).toNat).drop a=(l.drop a).take n:=by
 rw[show ((a:Int)+(n:Int)).toNat=a+n by omega,List.drop_take,Nat.add_sub_cancel_left]
theorem Mf(w:World)(l:List UInt8)(hm:BC w)(hl:l.length<=400):Calls Tryz.prog 65 #[str l] w (I0 w l):=by
 have HM:=J hm;have HT:Hid (DG l 0 []=Bh l):=J (by unfold Bh DG;rw[if_neg (by omega)]);have wi:¬(400:Int)<(l.length:Int):=by omega
 have mE:=J (fun W hx=>HM.o.ext (w':=W) hx);obtain⟨i0,hi,aU,hz1,a9⟩:=info_parts RK;clear hm;go_enter Tryz.func65,Tryz.ntmps65;go_wp2_with fail
 go_loopg [5,6] l.length (fun gh s5 s6 wr=>∃(a:Nat) (ts:List Tok) (tv:Value),gh=l.length-a/\s5=tv/\s6= .int .i64 (a:Int)/\a<=l.length/\QS w wr l a ts tv)
 case atStart=>exact⟨0,[],_,rfl,rfl,rfl,Nat.zero_le _,Nat.le_refl _,⟨rfl,.inl ⟨rfl,rfl⟩⟩,Ext.refl w,HM.o,HT.o⟩
 case round=>
  obtain⟨a,ts,tv,iD,rfl,rfl,hal,gj,aH,hx,lz,lE⟩:=hrel;have fl:=J iD;have dD:=J lE;have HX:=J hx;have ee:=J aH;obtain⟨At,ct,X1⟩:=Am aH;subst X1;clear iD lE hx HT aH;by_cases hlt:a<l.length
  ·have mR:=OE hlt;have fh:=CM l a;have aW:=J (fun W=>Ir W (Ac l a) fh);have jy:=J (fun W=>GG W (Ac l a) fh);have x6:=J (fun W=>PF W (Ac l a) fh);have ah:=J (HX.o.alloc (.cells #[.int .i64 0,.int .i64 (a:Int),.string ⟨#[]⟩] 122));have aM:=J (Blk.new wr 122 #[.int .i64 0,.int .i64 (a:Int),.string ⟨#[]⟩]);have fA:=HX.o.size;by_cases h32:Ac l a=32
   ·have fL:=J (Ln (ts:=ts) hlt (mR.2 h32));have Uh:((Ac l a:Int) == 32)=true:=by rw[h32];rfl
    have U9:=J (mE.o _ ah.o);clear mR h32 lz;go_wp2_with fail
    go_roundg (l.length-(a+1))
    case rel=>exact⟨a+1,ts,_,rfl,rfl,by go_num,by omega,by omega,Ad ee.o (fun g _ hg=>Below.heap_alloc _ _ g hg),ah.o,U9.o,by rw[<-fL.o];exact dD.o⟩
    case measure=>rw[fl.o];omega
   ·have Uh:((Ac l a:Int) == 32)=false:=by rw[beq_eq_false_iff_ne];omega
    have gv:l[a]?≠some 32:=fun h=>h32 (mR.1 h)
    have ha0:(0:Int)<=(a:Int):=by omega
    have ha1:(a:Int)<=(l.length:Int):=by omega
    clear mR h32 lz;cases hlet:Ev (Ac l a)
    ·rw[hlet]at aW;cases hdig:Dz (Ac l a)
     ·rw[hdig]at jy;have gL:=QW hlt hlet hdig;cases hsg:Gs (Ac l a)
      ·rw[hsg]at gL x6;have HR:Hid (Bh l=([],a,6)):=J (by rw[<-dD.o];exact FJ hlt gv gL);clear gL gv hlet hdig hsg;go_wp2_with fail;refine(aW.o _).mono ?_
       rintro e w2 ⟨rfl,rfl⟩;go_wp2_with fail;refine(jy.o _).mono ?_
       rintro e w2 ⟨rfl,rfl⟩;go_wp2_with fail;refine(x6.o _).mono ?_
       rintro e w2 ⟨rfl,rfl⟩;go_wp2_with fail;go_ret3;exact⟨_,by rw[HR.o];rfl,by rw[HR.o];exact⟨rfl,.inl ⟨rfl,rfl⟩⟩,ah.o⟩
      ·rw[hsg]at gL x6;have fL:=J (FI (ts:=ts) hlt gv gL);have aL:IntKind.i64.wrap ((a:Int)+1)=(a:Int)+1:=IntWalk.i64_in _ (by omega);have ha2:(0:Int)<=(a:Int)+1:=by omega
       have jV:(a:Int)+1<=(l.length:Int):=by omega
       have qL:(a:Int)<=(a:Int)+1:=by omega
       have k0:=aM.o.three;have mt:Hid ((l.take (a+1)).drop a=(l.drop a).take 1):=J (by rw[List.drop_take,Nat.add_sub_cancel_left]);clear gL gv hlet hdig hsg;go_wp2_with fail;refine(aW.o _).mono ?_
       rintro e w2 ⟨rfl,rfl⟩;go_wp2_with fail;refine(jy.o _).mono ?_
       rintro e w2 ⟨rfl,rfl⟩;go_wp2_with fail;refine(x6.o _).mono ?_
       rintro e w2 ⟨rfl,rfl⟩;go_wp2_with fail
       go_region_law (fail)
       have iX:(List.drop a (List.take (a+1) l)).length=1:=by rw[mt.o,List.length_take,List.length_drop];omega
       have cS:Hid (Ig w wr _ a 3 (List.drop a (List.take (a+1) l)) ts (.slice At ts.length ct)):=J (Ig.start HX.o ee.o);rw[show ((3:Nat):Int)=3 from rfl]at cS;have pN:wr.heap.size<(wr.alloc (.cells #[.int .i64 3,.int .i64 (a:Int),str (List.drop a (List.take (a+1) l))] 122)).drew.heap.size:=by simp
       generalize (wr.alloc (.cells #[.int .i64 3,.int .i64 (a:Int),str (List.drop a (List.take (a+1) l))] 122)).drew=v2 at *;generalize List.drop a (List.take (a+1) l)=t at *;clear k0;have mZ:=J iX;have k0:=cS.o.blk.three;have qw:ts.length<=400:=by omega
       have aX:ts.length+1<=maxLen:=by unfold maxLen;omega
       have hb2:(ts.length+1)*32<=140737488355328:=by omega
       have bu:=J aX;have br:=J hb2;have cV:w.heap.size<=(v2.alloc (.cells #[.int .i64 3,.int .i64 (a:Int),str t] 122)).heap.size:=by have:=cS.o.ext.size;simp;omega
       have bA:=J cV;have cZ:Hid ((v2.alloc (.cells #[.int .i64 3,.int .i64 (a:Int),str t] 122)).ownsRow w.heap.size 122 3 (.slice At ts.length ct) ts.length (Dq ts)):=J (Ad cS.o.row (fun g _ hg=>Below.heap_alloc _ _ g hg));have bC:=J (Rx v2 122 (.int .i64 3) (.int .i64 (a:Int)) (str t));have aY:IntKind.i64.wrap ((a:Int)+(t.length:Int))=(a:Int)+(t.length:Int):=IntWalk.i64_in _ (by omega);clear aX hb2 cV;go_wp2_with (at_builtin;go_must (refine wpList_append_own _ rfl _ _ 115 rfl w.heap.size 122 i0 _ 3 32 Tryz.underlying115 hi aU hz1 a9 rfl (by decide) _ ts.length (Dq ts) rfl cZ.o ⟨v2.heap.size,0,none⟩ 1 1 [.int .i64 3,.int .i64 (a:Int),str t] rfl rfl bC.o (by simp[Value.oneCell',str]) bu.o br.o bA.o ?_;intro v' w' ag al _;have HD:=J (cS.o.done _ pN ag al);obtain⟨A',c',rfl⟩:=Am ag;have m0:=HD.o.1.three;clear ag al));go_wp2_with fail;have oE:=J (mE.o _ HD.o.2.2)
       go_roundg (l.length-(a+1))
       case rel=>exact⟨a+1,ts++[⟨3,a,t⟩],_,rfl,rfl,by go_num,by omega,by rw[List.length_append,List.length_singleton];omega,HD.o.2.1,HD.o.2.2,oE.o,by rw[mt.o,<-fL.o];exact dD.o⟩
       case measure=>rw[fl.o];omega
     ·rw[hdig]at jy;have gL:=Pp hlt hlet hdig;have eV:=J (fun W=>Mi W (l.drop a) (by rw[List.length_drop];omega));have xJ:=DH Ci (l.drop a);rw[List.length_drop]at xJ;have l9:0<Aj Ci (l.drop a):=GE (by rw[List.length_drop];omega) (by rw[FY,Nat.add_zero];unfold Ci;rw[hdig];rfl);generalize Aj Ci (l.drop a)=n at *;have aL:IntKind.i64.wrap ((a:Int)+(n:Int))=(a:Int)+(n:Int):=IntWalk.i64_in _ (by omega);have ha2:(0:Int)<=(a:Int)+(n:Int):=by omega
      have jV:(a:Int)+(n:Int)<=(l.length:Int):=by omega
      have qL:(a:Int)<=(a:Int)+(n:Int):=by omega
      have k0:=aM.o.three;have mt:=J (TI (l:=l) (a:=a) (n:=n) (by omega));go_wp2_with fail;refine(aW.o _).mono ?_
      rintro e w2 ⟨rfl,rfl⟩;go_wp2_with fail;refine(jy.o _).mono ?_
      rintro e w2 ⟨rfl,rfl⟩;go_wp2_with fail
      go_region_law (go_simp;go_at_call 125;refine(eV.o _).mono ?_;rintro e w3 ⟨rfl,rfl⟩)
      rw[<-mt.o]at gL;have iX:(List.drop a (List.take ((a:Int)+(n:Int)).toNat l)).length=n:=by rw[mt.o,List.length_take,List.length_drop];omega
      have cS:Hid (Ig w wr _ a 1 (List.drop a (List.take ((a:Int)+(n:Int)).toNat l)) ts (.slice At ts.length ct)):=J (Ig.start HX.o ee.o);rw[show ((1:Nat):Int)=1 from rfl]at cS;have pN:wr.heap.size<(wr.alloc (.cells #[.int .i64 1,.int .i64 (a:Int),str (List.drop a (List.take ((a:Int)+(n:Int)).toNat l))] 122)).drew.heap.size:=by simp
      generalize (wr.alloc (.cells #[.int .i64 1,.int .i64 (a:Int),str (List.drop a (List.take ((a:Int)+(n:Int)).toNat l))] 122)).drew=v2 at *;generalize List.drop a (List.take ((a:Int)+(n:Int)).toNat l)=t at *;clear k0;have q0:=cS.o.blk.three;have mZ:=J iX;have HP:=J (fun W=>Iq W t);by_cases hc0:Bs t=0
      ·rw[if_pos hc0]at gL;have fL:=J (FI (ts:=ts) hlt gv gL);have HC:=J hc0;clear gL gv hlet hdig hc0;go_wp2_with fail;refine(HP.o _).mono ?_
       rintro e w5 ⟨v5,rfl,cm,hx5⟩;obtain⟨b5,n5,A5,c5,n6,A6,c6,rfl⟩:=cm.shape;have lO:=J (cS.o.more (hx5.alloc (.cells #[.bool b5,.slice A5 n5 c5,.slice A6 n6 c6] 26)));have dJ:wr.heap.size<(w5.alloc (.cells #[.bool b5,.slice A5 n5 c5,.slice A6 n6 c6] 26)).heap.size:=by have:=hx5.size;simp;omega
       clear cm hx5 q0;rw[HC.o];go_upto_region 18 with fail;generalize w5.alloc (.cells #[.bool b5,.slice A5 n5 c5,.slice A6 n6 c6] 26)=v3 at *;have k0:=lO.o.blk.three;have qw:ts.length<=400:=by omega
       have aX:ts.length+1<=maxLen:=by unfold maxLen;omega
       have hb2:(ts.length+1)*32<=140737488355328:=by omega
       have bu:=J aX;have br:=J hb2;have cV:w.heap.size<=(v3.alloc (.cells #[.int .i64 1,.int .i64 (a:Int),str t] 122)).heap.size:=by have:=lO.o.ext.size;simp;omega
       have bA:=J cV;have cZ:Hid ((v3.alloc (.cells #[.int .i64 1,.int .i64 (a:Int),str t] 122)).ownsRow w.heap.size 122 3 (.slice At ts.length ct) ts.length (Dq ts)):=J (Ad lO.o.row (fun g _ hg=>Below.heap_alloc _ _ g hg));have bC:=J (Rx v3 122 (.int .i64 1) (.int .i64 (a:Int)) (str t));have aY:IntKind.i64.wrap ((a:Int)+(t.length:Int))=(a:Int)+(t.length:Int):=IntWalk.i64_in _ (by omega);clear aX hb2 cV;go_wp2_with (at_builtin;go_must (refine wpList_append_own _ rfl _ _ 115 rfl w.heap.size 122 i0 _ 3 32 Tryz.underlying115 hi aU hz1 a9 rfl (by decide) _ ts.length (Dq ts) rfl cZ.o ⟨v3.heap.size,0,none⟩ 1 1 [.int .i64 1,.int .i64 (a:Int),str t] rfl rfl bC.o (by simp[Value.oneCell',str]) bu.o br.o bA.o ?_;intro v' w' ag al _;have HD:=J (lO.o.done _ dJ ag al);obtain⟨A',c',rfl⟩:=Am ag;have m0:=HD.o.1.three;clear ag al));go_wp2_with fail;have oE:=J (mE.o _ HD.o.2.2)
       go_roundg (l.length-(a+n))
       case rel=>exact⟨a+n,ts++[⟨1,a,t⟩],_,rfl,rfl,by go_num,by omega,by rw[List.length_append,List.length_singleton];omega,HD.o.2.1,HD.o.2.2,oE.o,by rw[mt.o,<-fL.o];exact dD.o⟩
       case measure=>rw[fl.o];omega
      ·rw[if_neg hc0]at gL;have HR:Hid (Bh l=([],a,6)):=J (by rw[<-dD.o];exact FJ hlt gv gL);have pb:((Bs t:Int) != 0)=true:=by rw[bne_iff_ne];omega
       clear gL gv hlet hdig hc0;go_wp2_with fail;refine(HP.o _).mono ?_
       rintro e w5 ⟨v5,rfl,cm,hx5⟩;obtain⟨b5,n5,A5,c5,n6,A6,c6,rfl⟩:=cm.shape;have lO:=J (cS.o.more (hx5.alloc (.cells #[.bool b5,.slice A5 n5 c5,.slice A6 n6 c6] 26)));have dJ:wr.heap.size<(w5.alloc (.cells #[.bool b5,.slice A5 n5 c5,.slice A6 n6 c6] 26)).heap.size:=by have:=hx5.size;simp;omega
       clear cm hx5 q0;go_wp2_with fail;go_ret3;exact⟨_,by rw[HR.o];rfl,by rw[HR.o];exact⟨rfl,.inl ⟨rfl,rfl⟩⟩,lO.o.ext⟩
    ·rw[hlet]at aW;have gL:=Nq hlt hlet;have pv:Bk (l.drop a)=Aj BN (l.drop a):=by
      unfold Bk;rw[if_pos (by rw[FY,Nat.add_zero];exact hlet)]
     have eV:=J (fun W=>Kz W (l.drop a) (by rw[List.length_drop];omega));rw[pv]at eV;have xJ:=DH BN (l.drop a);rw[List.length_drop]at xJ;have l9:0<Aj BN (l.drop a):=GE (by rw[List.length_drop];omega) (by rw[FY,Nat.add_zero];unfold BN;rw[hlet];rfl);clear pv;generalize Aj BN (l.drop a)=n at *;have aL:IntKind.i64.wrap ((a:Int)+(n:Int))=(a:Int)+(n:Int):=IntWalk.i64_in _ (by omega);have ha2:(0:Int)<=(a:Int)+(n:Int):=by omega
     have jV:(a:Int)+(n:Int)<=(l.length:Int):=by omega
     have qL:(a:Int)<=(a:Int)+(n:Int):=by omega
     have k0:=aM.o.three;have mt:=J (TI (l:=l) (a:=a) (n:=n) (by omega));go_wp2_with fail;refine(aW.o _).mono ?_
     rintro e w2 ⟨rfl,rfl⟩;go_wp2_with fail
     go_region_law (go_simp;go_at_call 123;refine(eV.o _).mono ?_;rintro e w3 ⟨rfl,rfl⟩)
     have iX:(List.drop a (List.take ((a:Int)+(n:Int)).toNat l)).length=n:=by rw[mt.o,List.length_take,List.length_drop];omega
     have cS:Hid (Ig w wr _ a 2 (List.drop a (List.take ((a:Int)+(n:Int)).toNat l)) ts (.slice At ts.length ct)):=J (Ig.start HX.o ee.o);rw[show ((2:Nat):Int)=2 from rfl]at cS;have pN:wr.heap.size<(wr.alloc (.cells #[.int .i64 2,.int .i64 (a:Int),str (List.drop a (List.take ((a:Int)+(n:Int)).toNat l))] 122)).drew.heap.size:=by simp
     generalize (wr.alloc (.cells #[.int .i64 2,.int .i64 (a:Int),str (List.drop a (List.take ((a:Int)+(n:Int)).toNat l))] 122)).drew=v2 at *;generalize List.drop a (List.take ((a:Int)+(n:Int)).toNat l)=t at *;clear k0;have q0:=cS.o.blk.three;have mZ:=J iX;rcases Nat.lt_or_ge 24 n with h24|h24
     ·rw[if_neg (by omega)]at gL;have HR:Hid (Bh l=([],a,6)):=J (by rw[<-dD.o];exact FJ hlt gv gL);have Uy:(24:Int)<(t.length:Int):=by omega
      clear gL gv hlet iX;go_wp2_with fail;go_ret3;exact⟨_,by rw[HR.o];rfl,by rw[HR.o];exact⟨rfl,.inl ⟨rfl,rfl⟩⟩,cS.o.ext⟩
     ·rw[if_pos h24]at gL;have fL:=J (FI (ts:=ts) hlt gv gL);have Uy:¬(24:Int)<(t.length:Int):=by omega
      clear gL gv hlet q0;have k0:=cS.o.blk.three;have qw:ts.length<=400:=by omega
      have aX:ts.length+1<=maxLen:=by unfold maxLen;omega
      have hb2:(ts.length+1)*32<=140737488355328:=by omega
      have bu:=J aX;have br:=J hb2;have cV:w.heap.size<=(v2.alloc (.cells #[.int .i64 2,.int .i64 (a:Int),str t] 122)).heap.size:=by have:=cS.o.ext.size;simp;omega
      have bA:=J cV;have cZ:Hid ((v2.alloc (.cells #[.int .i64 2,.int .i64 (a:Int),str t] 122)).ownsRow w.heap.size 122 3 (.slice At ts.length ct) ts.length (Dq ts)):=J (Ad cS.o.row (fun g _ hg=>Below.heap_alloc _ _ g hg));have bC:=J (Rx v2 122 (.int .i64 2) (.int .i64 (a:Int)) (str t));have aY:IntKind.i64.wrap ((a:Int)+(t.length:Int))=(a:Int)+(t.length:Int):=IntWalk.i64_in _ (by omega);clear aX hb2 cV;go_wp2_with (at_builtin;go_must (refine wpList_append_own _ rfl _ _ 115 rfl w.heap.size 122 i0 _ 3 32 Tryz.underlying115 hi aU hz1 a9 rfl (by decide) _ ts.length (Dq ts) rfl cZ.o ⟨v2.heap.size,0,none⟩ 1 1 [.int .i64 2,.int .i64 (a:Int),str t] rfl rfl bC.o (by simp[Value.oneCell',str]) bu.o br.o bA.o ?_;intro v' w' ag al _;have HD:=J (cS.o.done _ pN ag al);obtain⟨A',c',rfl⟩:=Am ag;have m0:=HD.o.1.three;clear ag al));go_wp2_with fail;have oE:=J (mE.o _ HD.o.2.2)
      go_roundg (l.length-(a+n))
      case rel=>exact⟨a+n,ts++[⟨2,a,t⟩],_,rfl,rfl,by go_num,by omega,by rw[List.length_append,List.length_singleton];omega,HD.o.2.1,HD.o.2.2,oE.o,by rw[mt.o,<-fL.o];exact dD.o⟩
      case measure=>rw[fl.o];omega
  ·obtain rfl:a=l.length:=by omega
   have HR:Hid (Bh l=(ts,l.length,0)):=J (by rw[<-dD.o];exact Nz (Nat.le_refl _));clear lz;go_wp2_with fail;go_ret3;refine⟨_,by rw[HR.o];rfl,?_,HX.o⟩;rw[HR.o];exact ee.o
theorem NE(w:World)(l:List UInt8)(h:400<l.length):Calls Tryz.prog 65 #[str l] w (I0 w l):=by
 have hc:Bh l=([],0,7):=if_pos h;have h':(400:Int)<(l.length:Int):=by omega
 have HC:=J hc;clear h hc;go_enter Tryz.func65,Tryz.ntmps65;go_wp2_with fail;go_ret3;exact⟨.slice none 0 0,by rw[HC.o];rfl,by rw[HC.o];exact⟨rfl,.inl ⟨rfl,rfl⟩⟩,Ext.refl w⟩
theorem PG(w:World)(l:List UInt8)(hm:BC w):Calls Tryz.prog 65 #[str l] w (I0 w l):=by
 rcases Nat.lt_or_ge 400 l.length with hl|hl
 ·exact NE w l hl
 ·exact Mf w l hm hl
def ER(w:World)(v:Value)(ts:List Tok):Prop:=∃B,w.ownsRow B 122 3 v ts.length (Dq ts)
theorem ER.ext{w w':World}{v:Value}{ts:List Tok}(h:ER w v ts)(hx:Ext w w'):ER w' v ts:=by
 obtain⟨B,h⟩:=h;exact⟨B,Ad h (fun g _ hg=>Below.block hx g hg)⟩
theorem Hr(ts:List Tok)(i j:Nat)(hi:i<ts.length)(hj:j<3):(Dq ts)[i*3+j]? =(Su ts[i])[j]? :=by
 induction ts generalizing i with
 |nil=>simp at hi
 |cons t ts ih=>
  have hl:(Su t).length=3:=rfl;unfold Dq at *;rw[List.flatMap_cons];cases i with
  |zero=>
   rw[Nat.zero_mul,Nat.zero_add,List.getElem?_append_left (by omega)];rfl
  |succ i=>
   rw[List.getElem?_append_right (by omega),hl,show (i+1)*3+j-3=i*3+j by omega,ih i (by simpa using hi)];rfl
theorem ER.cells{w:World}{v:Value}{ts:List Tok}(h:ER w v ts):∃A c,v= .slice A ts.length c/\(0<ts.length->∃g,A=some ⟨g,0,none⟩/\∀i (hi:i<ts.length),w.cell? ⟨g,i*3,none⟩=some (.int .i64 (ts[i].kind:Int))/\w.cell? ⟨g,i*3+1,none⟩=some (.int .i64 (ts[i].at_:Int))/\w.cell? ⟨g,i*3+2,none⟩=some (str ts[i].text)):=by
 obtain⟨B,h⟩:=h;rcases h.2 with ⟨h1,h2⟩|⟨g,cap,cur,rfl,_⟩
 ·exact⟨none,0,by rw[h1,h2],fun h3=>by omega⟩
 ·refine⟨_,_,rfl,fun _=>⟨g,rfl,fun i hi=>⟨?_,?_,?_⟩⟩⟩
  ·have h3:=h.cellAt (i*3+0) (by omega);rw[Hr ts i 0 hi (by omega)]at h3;exact h3
  ·have h3:=h.cellAt (i*3+1) (by omega);rw[Hr ts i 1 hi (by omega)]at h3;exact h3
  ·have h3:=h.cellAt (i*3+2) (by omega);rw[Hr ts i 2 hi (by omega)]at h3;exact h3
def R0(bs:List UInt8):Array Value:=(bs.map d8).toArray
theorem F4.block{w:World}{g:Nat}{bs:List UInt8}(h:Blk w g 5 (R0 bs))(hm:bs.length<=2147483648):F4 w (.slice (some ⟨g,0,none⟩) bs.length bs.length) bs:=by
 refine⟨some ⟨g,0,none⟩,bs.length,by rw[List.length_map],by rw[List.length_map];omega,(LS hm).1,fun _=>⟨g,0,rfl,h.lt,fun j u hj=> ?_⟩⟩;rw[h.cell,Nat.zero_add];unfold R0;rw[List.getElem?_toArray];exact hj
theorem ER.of{w:World}{B:Nat}{v:Value}{ts:List Tok}(h:w.ownsRow B 122 3 v ts.length (Dq ts)):ER w v ts:=⟨B,h⟩
theorem PA(f:Nat)(l:List UInt8):∀(a:Nat) (ts:List Tok),ts.length<=a->(D9 f l a ts).1.length<=a+f*(l.length+1):=by
 induction f with
 |zero=>intro a ts _;simp[D9]
 |succ f ih=>
  intro a ts h;rw[Nat.add_mul,Nat.one_mul];unfold D9;split
  ·simp;omega
  ·split
   ·have:=ih (a+1) ts (by omega);omega
   ·split
    ·simp
    ·rename_i k n ht;have h1:=E9 ht;rw[List.length_drop]at h1;have:=ih (a+n) (ts++[⟨k,a,(l.drop a).take n⟩]) (by rw[List.length_append,List.length_singleton];omega);omega
theorem Pz(l:List UInt8):(Bh l).1.length<=1000000:=by
 unfold Bh;split
 ·simp
 ·have:=PA (l.length+1) l 0 [] (by simp);have h2:(l.length+1)*(l.length+1)<=401*401:=Nat.mul_le_mul (by omega) (by omega);omega
theorem Dr.ext{w w':World}(h:Dr w w'):Ext w w':=h.below w.heap.size
end Big
end Go.Proofs.YtkoaogkknnelaaaGreatDoor
