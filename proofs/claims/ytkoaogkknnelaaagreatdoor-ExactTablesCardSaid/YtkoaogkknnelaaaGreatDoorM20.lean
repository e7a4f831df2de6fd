import Derived.Test.YtkoaogkknnelaaaGreatDoorM19
import Derived.Laws.StructEq
set_option linter.unusedVariables false
set_option linter.unusedSimpArgs false
set_option maxHeartbeats 4000000
set_option maxRecDepth 100000
namespace Go.Proofs.YtkoaogkknnelaaaGreatDoor
namespace Big
open Lib renaming hid → J
open Go.RowKit
theorem Dr.below{w w':World}(h:Dr w w')(B:Nat):Below B w w':=by
 have h1:=h.grown none;exact⟨h1.os,h1.tape,h1.output,h1.size,fun g _=>by rw[h.heap]⟩
theorem FZ{l:List UInt8}{a:Nat}(ha:a<l.length):∃c t,l.drop a=c::t/\c.toNat=Af l a/\l[a]? =some c:=by
 refine⟨l[a],l.drop (a+1),qcq ha,(BG l a ha).symm,qad ha⟩
theorem Nt{l:List UInt8}{a:Nat}(ha:a<l.length)(h:Ee (Af l a)=true):Df (l.drop a)=if Ao BX (l.drop a)<=24 then some (2,Ao BX (l.drop a)) else none:=by
 obtain⟨c,t,h1,h2,_⟩:=FZ ha;rw[h1];unfold Df;simp only;rw[h2,if_pos h]
theorem Pj{l:List UInt8}{a:Nat}(ha:a<l.length)(h0:Ee (Af l a)=false)(h:Dl (Af l a)=true):Df (l.drop a)=if Bh ((l.drop a).take (Ao Cx (l.drop a)))=0 then some (1,Ao Cx (l.drop a)) else none:=by
 obtain⟨c,t,h1,h2,_⟩:=FZ ha;rw[h1];unfold Df;simp only;rw[h2,h0,h];simp
theorem Ra{l:List UInt8}{a:Nat}(ha:a<l.length)(h0:Ee (Af l a)=false)(h:Dl (Af l a)=false):Df (l.drop a)=if F4 (Af l a) then some (3,1) else none:=by
 obtain⟨c,t,h1,h2,_⟩:=FZ ha;rw[h1];unfold Df;simp only;rw[h2,h0,h];simp
theorem Oy{l:List UInt8}{a:Nat}(ha:a<l.length):l[a]? =some 32↔Af l a=32:=by
 obtain⟨c,t,_,h2,h3⟩:=FZ ha;rw[h3,<-h2];constructor
 ·intro h;injection h with h;rw[h];rfl
 ·intro h
  congr 1
  apply qcA.1;rw[h];rfl
def I9(w:World)(l:List UInt8)(e:Ending)(w':World):Prop:=
 ∃v,e= .returned (.tuple #[v,.int .i64 ((Bm l).2.1:Int),.int .i64 ((Bm l).2.2:Int)])/\w'.ownsRow w.heap.size 122 3 v (Bm l).1.length (De (Bm l).1)/\Ext w w'
theorem Sc(w:World)(ty:TypeId)(x y z:Value):∀(j:Nat) (u:Value),[x,y,z][j]? =some u->(w.alloc (.cells #[x,y,z] ty)).cell? ((⟨w.heap.size,0,none⟩:Addr).add j)=some u:=fun j u hj=>by
 have h1:=(Blk.new w ty #[x,y,z]).cell j;have h2:(⟨w.heap.size,0,none⟩:Addr).add j=⟨w.heap.size,j,none⟩:=by
  unfold Addr.add;split
  ·rename_i h;subst h;rfl
  ·simp
 rw[h2,h1,<-hj];simp
theorem N6{w:World}{base:Nat}{e:TypeId}{size n:Nat}{v:Value}{xs:List Value}(h:w.ownsRow base e size v n xs):∀k,v.ownBlock=some k->k<w.heap.size:=by
 obtain⟨h1,h2⟩:=h;rcases h2 with ⟨rfl,_⟩|⟨g,cap,cur,rfl,hg,hh,_⟩
 ·intro k hk;simp[Value.ownBlock]at hk
 ·intro k hk;simp only[Value.ownBlock,qar]at hk;subst hk;rcases qah g w.heap.size with h|h
  ·exact h
  ·rw[qbg h]at hh;cases hh
def Q4(w wr:World)(l:List UInt8)(a:Nat)(ts:List Tok)(tv:Value):Prop:=
 ts.length<=a/\wr.ownsRow w.heap.size 122 3 tv ts.length (De ts)/\Ext w wr/\B5 wr/\Dp l a ts=Bm l
structure If (w wr W:World) (a k:Nat) (t:List UInt8) (ts:List Tok) (tv:Value):Prop where
 blk:Blk W wr.heap.size 122 #[.int .i64 (k:Int),.int .i64 (a:Int),str t]
 row:W.ownsRow w.heap.size 122 3 tv ts.length (De ts)
 own:∀b,tv.ownBlock=some b->w.heap.size<=b/\b<wr.heap.size
 ext:Ext w W
theorem If.start{w wr:World}{a k:Nat}{t:List UInt8}{ts:List Tok}{tv:Value}(hx:Ext w wr)(hr:wr.ownsRow w.heap.size 122 3 tv ts.length (De ts)):
  If w wr (wr.alloc (.cells #[.int .i64 (k:Int),.int .i64 (a:Int),str t] 122)).drew a k t ts tv:=
 ⟨(Blk.new wr _ _).drew,Ah hr (fun g _ hg=>Below.heap_alloc _ _ g hg),fun b hb=>And.intro (AQ hr b hb) (N6 hr b hb),(hx.alloc (.cells #[.int .i64 (k:Int),.int .i64 (a:Int),str t] 122)).drewN 1⟩
theorem If.more{w wr W W':World}{a k:Nat}{t:List UInt8}{ts:List Tok}{tv:Value}(h:If w wr W a k t ts tv)(hx:Ext W W'):If w wr W' a k t ts tv:=
 ⟨h.blk.ext hx,Ah h.row (fun g _ hg=>Below.block hx g hg),h.own,h.ext.trans hx⟩
theorem If.done {w wr W W':World} {a k:Nat} {t:List UInt8} {ts:List Tok} {tv v':Value} (h:If w wr W a k t ts tv) (ho:Obj) (hg:wr.heap.size<W.heap.size)
  (al:W'.ownsRow w.heap.size 122 3 v' (ts.length+1) (De ts++[.int .i64 (k:Int),.int .i64 (a:Int),str t])) (aC:(W.alloc ho).grownBy W' tv.ownBlock):
  Blk W' wr.heap.size 122 #[.int .i64 (k:Int),.int .i64 (a:Int),str t]/\W'.ownsRow w.heap.size 122 3 v' (ts++[(⟨k,a,t⟩:Tok)]).length (De (ts++[(⟨k,a,t⟩:Tok)]))/\Ext w W':=by
 refine⟨?_,?_,?_⟩
 ·have h1:=aC.block wr.heap.size (show wr.heap.size<(W.alloc ho).heap.size by simp;omega) (fun e=>by have:=(h.own _ e.symm).2;omega);exact h1.trans (h.blk.alloc ho)
 ·rw[Ns,qac,qal];exact al
 ·exact(h.ext.alloc ho).grown aC (fun b hb=>(h.own b hb).1)
theorem UZ{l:List UInt8}{a n:Nat}(_h:a+n<=l.length):(l.take ((a:Int)+(n:Int)).toNat).drop a=(l.drop a).take n:=by
 rw[show ((a:Int)+(n:Int)).toNat=a+n by omega,List.drop_take,qbu]
theorem Mb(w:World)(l:List UInt8)(hm:B5 w)(hl:l.length<=400):Calls Tryz.prog 65 #[str l] w (I9 w l):=by
 have HM:=J hm;have HT:Hid (Dp l 0 []=Bm l):=J (by unfold Bm Dp;rw[if_neg (by omega)]);have wW:¬(400:Int)<(l.length:Int):=by omega
 have pR:=J (fun W hx=>HM.o.ext (w':=W) hx);obtain⟨i0,hi,aD,hz1,bu⟩:=info_parts Ss;clear hm;go_enter Tryz.func65,Tryz.ntmps65;go_wp2_with fail
 go_loopg [5,6] l.length (fun gh s5 s6 wr=>∃(a:Nat) (ts:List Tok) (tv:Value),gh=l.length-a/\s5=tv/\s6= .int .i64 (a:Int)/\a<=l.length/\Q4 w wr l a ts tv)
 case atStart=>exact⟨0,[],_,rfl,rfl,rfl,qaj _,qab _,⟨rfl,.inl ⟨rfl,rfl⟩⟩,Ext.refl w,HM.o,HT.o⟩
 case round=>
  obtain⟨a,ts,tv,jO,rfl,rfl,hal,jk,bc,hx,oq,pJ⟩:=hrel;have jD:=J jO;have fO:=J pJ;have HX:=J hx;have gf:=J bc;obtain⟨At,ct,htv⟩:=Aw bc;subst htv;clear jO pJ hx HT bc;by_cases hlt:a<l.length
  ·have pF:=Oy hlt;have fd:=CR l a;have dH:=J (fun W=>Ip W (Af l a) fd);have ko:=J (fun W=>Gf W (Af l a) fd);have fo:=J (fun W=>PJ W (Af l a) fd);have au:=J (HX.o.alloc (.cells #[.int .i64 0,.int .i64 (a:Int),.string ⟨#[]⟩] 122));have ag:=J (Blk.new wr 122 #[.int .i64 0,.int .i64 (a:Int),.string ⟨#[]⟩]);have eC:=HX.o.size;by_cases h32:Af l a=32
   ·have ia:=J (Lh (ts:=ts) hlt (pF.2 h32));have VS:((Af l a:Int) == 32)=true:=by rw[h32];rfl
    have WU:=J (pR.o _ au.o);clear pF h32 oq;go_wp2_with fail
    go_roundg (l.length-(a+1))
    case rel=>exact⟨a+1,ts,_,rfl,rfl,by go_num,by omega,by omega,Ah gf.o (fun g _ hg=>Below.heap_alloc _ _ g hg),au.o,WU.o,by rw[<-ia.o];exact fO.o⟩
    case measure=>rw[jD.o];omega
   ·have VS:((Af l a:Int) == 32)=false:=by rw[beq_eq_false_iff_ne];omega
    have gT:l[a]?≠some 32:=fun h=>h32 (pF.1 h)
    have VW:(0:Int)<=(a:Int):=by omega
    have ha1:(a:Int)<=(l.length:Int):=by omega
    clear pF h32 oq;cases hlet:Ee (Af l a)
    ·rw[hlet]at dH;cases hdig:Dl (Af l a)
     ·rw[hdig]at ko;have ij:=Ra hlt hlet hdig;cases hsg:F4 (Af l a)
      ·rw[hsg]at ij fo;have HR:Hid (Bm l=([],a,6)):=J (by rw[<-fO.o];exact Ft hlt gT ij);clear ij gT hlet hdig hsg;go_wp2_with fail;refine(dH.o _).mono ?_
       rintro e w2 ⟨rfl,rfl⟩;go_wp2_with fail;refine(ko.o _).mono ?_
       rintro e w2 ⟨rfl,rfl⟩;go_wp2_with fail;refine(fo.o _).mono ?_
       rintro e w2 ⟨rfl,rfl⟩;go_wp2_with fail;go_ret3;exact⟨_,by rw[HR.o];rfl,by rw[HR.o];exact⟨rfl,.inl ⟨rfl,rfl⟩⟩,au.o⟩
      ·rw[hsg]at ij fo;have ia:=J (Fs (ts:=ts) hlt gT ij);have aT:IntKind.i64.wrap ((a:Int)+1)=(a:Int)+1:=IntWalk.i64_in _ (by omega);have Yq:(0:Int)<=(a:Int)+1:=by omega
       have Yp:(a:Int)+1<=(l.length:Int):=by omega
       have Yo:(a:Int)<=(a:Int)+1:=by omega
       have k0:=ag.o.three;have mW:Hid ((l.take (a+1)).drop a=(l.drop a).take 1):=J (by rw[List.drop_take,qbu]);clear ij gT hlet hdig hsg;go_wp2_with fail;refine(dH.o _).mono ?_
       rintro e w2 ⟨rfl,rfl⟩;go_wp2_with fail;refine(ko.o _).mono ?_
       rintro e w2 ⟨rfl,rfl⟩;go_wp2_with fail;refine(fo.o _).mono ?_
       rintro e w2 ⟨rfl,rfl⟩;go_wp2_with fail
       go_region_law (fail)
       have jj:(List.drop a (List.take (a+1) l)).length=1:=by rw[mW.o,qam,qbn];omega
       have eQ:Hid (If w wr _ a 3 (List.drop a (List.take (a+1) l)) ts (.slice At ts.length ct)):=J (If.start HX.o gf.o);rw[show ((3:Nat):Int)=3 from rfl]at eQ;have qk:wr.heap.size<(wr.alloc (.cells #[.int .i64 3,.int .i64 (a:Int),str (List.drop a (List.take (a+1) l))] 122)).drew.heap.size:=by simp
       generalize (wr.alloc (.cells #[.int .i64 3,.int .i64 (a:Int),str (List.drop a (List.take (a+1) l))] 122)).drew=v2 at *;generalize List.drop a (List.take (a+1) l)=t at *;clear k0;have jv:=J jj;have k0:=eQ.o.blk.three;have qO:ts.length<=400:=by omega
       have am:ts.length+1<=maxLen:=by unfold maxLen;omega
       have hb2:(ts.length+1)*32<=140737488355328:=by omega
       have bN:=J am;have bM:=J hb2;have eI:w.heap.size<=(v2.alloc (.cells #[.int .i64 3,.int .i64 (a:Int),str t] 122)).heap.size:=by have:=eQ.o.ext.size;simp;omega
       have cD:=J eI;have ec:Hid ((v2.alloc (.cells #[.int .i64 3,.int .i64 (a:Int),str t] 122)).ownsRow w.heap.size 122 3 (.slice At ts.length ct) ts.length (De ts)):=J (Ah eQ.o.row (fun g _ hg=>Below.heap_alloc _ _ g hg));have dK:=J (Sc v2 122 (.int .i64 3) (.int .i64 (a:Int)) (str t));have bQ:IntKind.i64.wrap ((a:Int)+(t.length:Int))=(a:Int)+(t.length:Int):=IntWalk.i64_in _ (by omega);clear am hb2 eI;go_wp2_with (at_builtin;go_must (refine wpList_append_own _ rfl _ _ 115 rfl w.heap.size 122 i0 _ 3 32 Tryz.underlying115 hi aD hz1 bu rfl (by decide) _ ts.length (De ts) rfl ec.o ⟨v2.heap.size,0,none⟩ 1 1 [.int .i64 3,.int .i64 (a:Int),str t] rfl rfl dK.o (by simp[Value.oneCell',str]) bN.o bM.o cD.o ?_;intro v' w' al aC _;have HD:=J (eQ.o.done _ qk al aC);obtain⟨A',c',rfl⟩:=Aw al;have m0:=HD.o.1.three;clear al aC));go_wp2_with fail;have pg:=J (pR.o _ HD.o.2.2)
       go_roundg (l.length-(a+1))
       case rel=>exact⟨a+1,ts++[⟨3,a,t⟩],_,rfl,rfl,by go_num,by omega,by rw[qac,qal];omega,HD.o.2.1,HD.o.2.2,pg.o,by rw[mW.o,<-ia.o];exact fO.o⟩
       case measure=>rw[jD.o];omega
     ·rw[hdig]at ko;have ij:=Pj hlt hlet hdig;have jw:=J (fun W=>Mf W (l.drop a) (by rw[qbn];omega));have lc:=Dq Cx (l.drop a);rw[qbn]at lc;have lA:0<Ao Cx (l.drop a):=Ge (by rw[qbn];omega) (by rw[FL,qaN];unfold Cx;rw[hdig];rfl);generalize Ao Cx (l.drop a)=n at *;have aT:IntKind.i64.wrap ((a:Int)+(n:Int))=(a:Int)+(n:Int):=IntWalk.i64_in _ (by omega);have Yq:(0:Int)<=(a:Int)+(n:Int):=by omega
      have Yp:(a:Int)+(n:Int)<=(l.length:Int):=by omega
      have Yo:(a:Int)<=(a:Int)+(n:Int):=by omega
      have k0:=ag.o.three;have mW:=J (UZ (l:=l) (a:=a) (n:=n) (by omega));go_wp2_with fail;refine(dH.o _).mono ?_
      rintro e w2 ⟨rfl,rfl⟩;go_wp2_with fail;refine(ko.o _).mono ?_
      rintro e w2 ⟨rfl,rfl⟩;go_wp2_with fail
      go_region_law (go_simp;go_at_call 125;refine(jw.o _).mono ?_;rintro e w3 ⟨rfl,rfl⟩)
      rw[<-mW.o]at ij;have jj:(List.drop a (List.take ((a:Int)+(n:Int)).toNat l)).length=n:=by rw[mW.o,qam,qbn];omega
      have eQ:Hid (If w wr _ a 1 (List.drop a (List.take ((a:Int)+(n:Int)).toNat l)) ts (.slice At ts.length ct)):=J (If.start HX.o gf.o);rw[show ((1:Nat):Int)=1 from rfl]at eQ;have qk:wr.heap.size<(wr.alloc (.cells #[.int .i64 1,.int .i64 (a:Int),str (List.drop a (List.take ((a:Int)+(n:Int)).toNat l))] 122)).drew.heap.size:=by simp
      generalize (wr.alloc (.cells #[.int .i64 1,.int .i64 (a:Int),str (List.drop a (List.take ((a:Int)+(n:Int)).toNat l))] 122)).drew=v2 at *;generalize List.drop a (List.take ((a:Int)+(n:Int)).toNat l)=t at *;clear k0;have q0:=eQ.o.blk.three;have jv:=J jj;have HP:=J (fun W=>Fu W t);by_cases hc0:Bh t=0
      ·rw[if_pos hc0]at ij;have ia:=J (Fs (ts:=ts) hlt gT ij);have HC:=J hc0;clear ij gT hlet hdig hc0;go_wp2_with fail;refine(HP.o _).mono ?_
       rintro e w5 ⟨v5,rfl,dg,hx5⟩;obtain⟨b5,n5,A5,c5,n6,A6,c6,rfl⟩:=dg.shape;have pS:=J (eQ.o.more (hx5.alloc (.cells #[.bool b5,.slice A5 n5 c5,.slice A6 n6 c6] 26)));have ea:wr.heap.size<(w5.alloc (.cells #[.bool b5,.slice A5 n5 c5,.slice A6 n6 c6] 26)).heap.size:=by have:=hx5.size;simp;omega
       clear dg hx5 q0;rw[HC.o];go_upto_region 18 with fail;generalize w5.alloc (.cells #[.bool b5,.slice A5 n5 c5,.slice A6 n6 c6] 26)=v3 at *;have k0:=pS.o.blk.three;have qO:ts.length<=400:=by omega
       have am:ts.length+1<=maxLen:=by unfold maxLen;omega
       have hb2:(ts.length+1)*32<=140737488355328:=by omega
       have bN:=J am;have bM:=J hb2;have eI:w.heap.size<=(v3.alloc (.cells #[.int .i64 1,.int .i64 (a:Int),str t] 122)).heap.size:=by have:=pS.o.ext.size;simp;omega
       have cD:=J eI;have ec:Hid ((v3.alloc (.cells #[.int .i64 1,.int .i64 (a:Int),str t] 122)).ownsRow w.heap.size 122 3 (.slice At ts.length ct) ts.length (De ts)):=J (Ah pS.o.row (fun g _ hg=>Below.heap_alloc _ _ g hg));have dK:=J (Sc v3 122 (.int .i64 1) (.int .i64 (a:Int)) (str t));have bQ:IntKind.i64.wrap ((a:Int)+(t.length:Int))=(a:Int)+(t.length:Int):=IntWalk.i64_in _ (by omega);clear am hb2 eI;go_wp2_with (at_builtin;go_must (refine wpList_append_own _ rfl _ _ 115 rfl w.heap.size 122 i0 _ 3 32 Tryz.underlying115 hi aD hz1 bu rfl (by decide) _ ts.length (De ts) rfl ec.o ⟨v3.heap.size,0,none⟩ 1 1 [.int .i64 1,.int .i64 (a:Int),str t] rfl rfl dK.o (by simp[Value.oneCell',str]) bN.o bM.o cD.o ?_;intro v' w' al aC _;have HD:=J (pS.o.done _ ea al aC);obtain⟨A',c',rfl⟩:=Aw al;have m0:=HD.o.1.three;clear al aC));go_wp2_with fail;have pg:=J (pR.o _ HD.o.2.2)
       go_roundg (l.length-(a+n))
       case rel=>exact⟨a+n,ts++[⟨1,a,t⟩],_,rfl,rfl,by go_num,by omega,by rw[qac,qal];omega,HD.o.2.1,HD.o.2.2,pg.o,by rw[mW.o,<-ia.o];exact fO.o⟩
       case measure=>rw[jD.o];omega
      ·rw[if_neg hc0]at ij;have HR:Hid (Bm l=([],a,6)):=J (by rw[<-fO.o];exact Ft hlt gT ij);have hcn:((Bh t:Int) != 0)=true:=by rw[bne_iff_ne];omega
       clear ij gT hlet hdig hc0;go_wp2_with fail;refine(HP.o _).mono ?_
       rintro e w5 ⟨v5,rfl,dg,hx5⟩;obtain⟨b5,n5,A5,c5,n6,A6,c6,rfl⟩:=dg.shape;have pS:=J (eQ.o.more (hx5.alloc (.cells #[.bool b5,.slice A5 n5 c5,.slice A6 n6 c6] 26)));have ea:wr.heap.size<(w5.alloc (.cells #[.bool b5,.slice A5 n5 c5,.slice A6 n6 c6] 26)).heap.size:=by have:=hx5.size;simp;omega
       clear dg hx5 q0;go_wp2_with fail;go_ret3;exact⟨_,by rw[HR.o];rfl,by rw[HR.o];exact⟨rfl,.inl ⟨rfl,rfl⟩⟩,pS.o.ext⟩
    ·rw[hlet]at dH;have ij:=Nt hlt hlet;have uy:Bq (l.drop a)=Ao BX (l.drop a):=by
      unfold Bq;rw[if_pos (by rw[FL,qaN];exact hlet)]
     have jw:=J (fun W=>Kx W (l.drop a) (by rw[qbn];omega));rw[uy]at jw;have lc:=Dq BX (l.drop a);rw[qbn]at lc;have lA:0<Ao BX (l.drop a):=Ge (by rw[qbn];omega) (by rw[FL,qaN];unfold BX;rw[hlet];rfl);clear uy;generalize Ao BX (l.drop a)=n at *;have aT:IntKind.i64.wrap ((a:Int)+(n:Int))=(a:Int)+(n:Int):=IntWalk.i64_in _ (by omega);have Yq:(0:Int)<=(a:Int)+(n:Int):=by omega
     have Yp:(a:Int)+(n:Int)<=(l.length:Int):=by omega
     have Yo:(a:Int)<=(a:Int)+(n:Int):=by omega
     have k0:=ag.o.three;have mW:=J (UZ (l:=l) (a:=a) (n:=n) (by omega));go_wp2_with fail;refine(dH.o _).mono ?_
     rintro e w2 ⟨rfl,rfl⟩;go_wp2_with fail
     go_region_law (go_simp;go_at_call 123;refine(jw.o _).mono ?_;rintro e w3 ⟨rfl,rfl⟩)
     have jj:(List.drop a (List.take ((a:Int)+(n:Int)).toNat l)).length=n:=by rw[mW.o,qam,qbn];omega
     have eQ:Hid (If w wr _ a 2 (List.drop a (List.take ((a:Int)+(n:Int)).toNat l)) ts (.slice At ts.length ct)):=J (If.start HX.o gf.o);rw[show ((2:Nat):Int)=2 from rfl]at eQ;have qk:wr.heap.size<(wr.alloc (.cells #[.int .i64 2,.int .i64 (a:Int),str (List.drop a (List.take ((a:Int)+(n:Int)).toNat l))] 122)).drew.heap.size:=by simp
     generalize (wr.alloc (.cells #[.int .i64 2,.int .i64 (a:Int),str (List.drop a (List.take ((a:Int)+(n:Int)).toNat l))] 122)).drew=v2 at *;generalize List.drop a (List.take ((a:Int)+(n:Int)).toNat l)=t at *;clear k0;have q0:=eQ.o.blk.three;have jv:=J jj;rcases qah 24 n with h24|h24
     ·rw[if_neg (by omega)]at ij;have HR:Hid (Bm l=([],a,6)):=J (by rw[<-fO.o];exact Ft hlt gT ij);have V9:(24:Int)<(t.length:Int):=by omega
      clear ij gT hlet jj;go_wp2_with fail;go_ret3;exact⟨_,by rw[HR.o];rfl,by rw[HR.o];exact⟨rfl,.inl ⟨rfl,rfl⟩⟩,eQ.o.ext⟩
     ·rw[if_pos h24]at ij;have ia:=J (Fs (ts:=ts) hlt gT ij);have V9:¬(24:Int)<(t.length:Int):=by omega
      clear ij gT hlet q0;have k0:=eQ.o.blk.three;have qO:ts.length<=400:=by omega
      have am:ts.length+1<=maxLen:=by unfold maxLen;omega
      have hb2:(ts.length+1)*32<=140737488355328:=by omega
      have bN:=J am;have bM:=J hb2;have eI:w.heap.size<=(v2.alloc (.cells #[.int .i64 2,.int .i64 (a:Int),str t] 122)).heap.size:=by have:=eQ.o.ext.size;simp;omega
      have cD:=J eI;have ec:Hid ((v2.alloc (.cells #[.int .i64 2,.int .i64 (a:Int),str t] 122)).ownsRow w.heap.size 122 3 (.slice At ts.length ct) ts.length (De ts)):=J (Ah eQ.o.row (fun g _ hg=>Below.heap_alloc _ _ g hg));have dK:=J (Sc v2 122 (.int .i64 2) (.int .i64 (a:Int)) (str t));have bQ:IntKind.i64.wrap ((a:Int)+(t.length:Int))=(a:Int)+(t.length:Int):=IntWalk.i64_in _ (by omega);clear am hb2 eI;go_wp2_with (at_builtin;go_must (refine wpList_append_own _ rfl _ _ 115 rfl w.heap.size 122 i0 _ 3 32 Tryz.underlying115 hi aD hz1 bu rfl (by decide) _ ts.length (De ts) rfl ec.o ⟨v2.heap.size,0,none⟩ 1 1 [.int .i64 2,.int .i64 (a:Int),str t] rfl rfl dK.o (by simp[Value.oneCell',str]) bN.o bM.o cD.o ?_;intro v' w' al aC _;have HD:=J (eQ.o.done _ qk al aC);obtain⟨A',c',rfl⟩:=Aw al;have m0:=HD.o.1.three;clear al aC));go_wp2_with fail;have pg:=J (pR.o _ HD.o.2.2)
      go_roundg (l.length-(a+n))
      case rel=>exact⟨a+n,ts++[⟨2,a,t⟩],_,rfl,rfl,by go_num,by omega,by rw[qac,qal];omega,HD.o.2.1,HD.o.2.2,pg.o,by rw[mW.o,<-ia.o];exact fO.o⟩
      case measure=>rw[jD.o];omega
  ·obtain rfl:a=l.length:=by omega
   have HR:Hid (Bm l=(ts,l.length,0)):=J (by rw[<-fO.o];exact Nz (qab _));clear oq;go_wp2_with fail;go_ret3;refine⟨_,by rw[HR.o];rfl,?_,HX.o⟩;rw[HR.o];exact gf.o
theorem NL(w:World)(l:List UInt8)(h:400<l.length):Calls Tryz.prog 65 #[str l] w (I9 w l):=by
 have hc:Bm l=([],0,7):=if_pos h;have h':(400:Int)<(l.length:Int):=by omega
 have HC:=J hc;clear h hc;go_enter Tryz.func65,Tryz.ntmps65;go_wp2_with fail;go_ret3;exact⟨.slice none 0 0,by rw[HC.o];rfl,by rw[HC.o];exact⟨rfl,.inl ⟨rfl,rfl⟩⟩,Ext.refl w⟩
theorem PL(w:World)(l:List UInt8)(hm:B5 w):Calls Tryz.prog 65 #[str l] w (I9 w l):=by
 rcases qah 400 l.length with hl|hl
 ·exact NL w l hl
 ·exact Mb w l hm hl
def Gt(w:World)(v:Value)(ts:List Tok):Prop:=∃B,w.ownsRow B 122 3 v ts.length (De ts)
theorem Hq(ts:List Tok)(i j:Nat)(hi:i<ts.length)(hj:j<3):(De ts)[i*3+j]? =(Tg ts[i])[j]? :=by
 induction ts generalizing i with
 |nil=>simp at hi
 |cons t ts ih=>
  have hl:(Tg t).length=3:=rfl;unfold De at *;rw[qbW];cases i with
  |zero=>
   rw[qcy,qaW,qat (by omega)];rfl
  |succ i=>
   rw[qai (by omega),hl,show (i+1)*3+j-3=i*3+j by omega,ih i (by simpa using hi)];rfl
theorem Gt.cells{w:World}{v:Value}{ts:List Tok}(h:Gt w v ts):∃A c,v= .slice A ts.length c/\(0<ts.length->∃g,A=some ⟨g,0,none⟩/\∀i (hi:i<ts.length),w.cell? ⟨g,i*3,none⟩=some (.int .i64 (ts[i].kind:Int))/\w.cell? ⟨g,i*3+1,none⟩=some (.int .i64 (ts[i].at_:Int))/\w.cell? ⟨g,i*3+2,none⟩=some (str ts[i].text)):=by
 obtain⟨B,h⟩:=h;rcases h.2 with ⟨h1,h2⟩|⟨g,cap,cur,rfl,_⟩
 ·exact⟨none,0,by rw[h1,h2],fun h3=>by omega⟩
 ·refine⟨_,_,rfl,fun _=>⟨g,rfl,fun i hi=>⟨?_,?_,?_⟩⟩⟩
  ·have h3:=h.cellAt (i*3+0) (by omega);rw[Hq ts i 0 hi (by omega)]at h3;exact h3
  ·have h3:=h.cellAt (i*3+1) (by omega);rw[Hq ts i 1 hi (by omega)]at h3;exact h3
  ·have h3:=h.cellAt (i*3+2) (by omega);rw[Hq ts i 2 hi (by omega)]at h3;exact h3
end Big
end Go.Proofs.YtkoaogkknnelaaaGreatDoor
