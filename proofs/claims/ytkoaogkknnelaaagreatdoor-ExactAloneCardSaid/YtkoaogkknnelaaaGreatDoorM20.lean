import Derived.Test.YtkoaogkknnelaaaGreatDoorM19
import Derived.Laws.StructEq
set_option linter.unusedVariables false
set_option linter.unusedSimpArgs false
set_option maxHeartbeats 4000000
set_option maxRecDepth 100000
namespace Go.Proofs.YtkoaogkknnelaaaGreatDoor
namespace Big
open Lib (hid)
open Go.RowKit
theorem FA{l:List UInt8}{a:Nat}(ha:a<l.length):∃c t,l.drop a=c::t/\c.toNat=Ae l a/\l[a]? =some c:=by
 refine⟨l[a],l.drop (a+1),List.drop_eq_getElem_cons ha,(Bq l a ha).symm,List.getElem?_eq_getElem ha⟩
theorem MO{l:List UInt8}{a:Nat}(ha:a<l.length)(h:DN (Ae l a)=true):CQ (l.drop a)=if An BD (l.drop a)<=24 then some (2,An BD (l.drop a)) else none:=by
 obtain⟨c,t,h1,h2,_⟩:=FA ha;rw[h1];unfold CQ;simp only;rw[h2,if_pos h]
theorem OM{l:List UInt8}{a:Nat}(ha:a<l.length)(h0:DN (Ae l a)=false)(h:C5 (Ae l a)=true):CQ (l.drop a)=if AX ((l.drop a).take (An Ca (l.drop a)))=0 then some (1,An Ca (l.drop a)) else none:=by
 obtain⟨c,t,h1,h2,_⟩:=FA ha;rw[h1];unfold CQ;simp only;rw[h2,h0,h];simp
theorem Qv{l:List UInt8}{a:Nat}(ha:a<l.length)(h0:DN (Ae l a)=false)(h:C5 (Ae l a)=false):CQ (l.drop a)=if FF (Ae l a) then some (3,1) else none:=by
 obtain⟨c,t,h1,h2,_⟩:=FA ha;rw[h1];unfold CQ;simp only;rw[h2,h0,h];simp
theorem NS{l:List UInt8}{a:Nat}(ha:a<l.length):l[a]? =some 32↔Ae l a=32:=by
 obtain⟨c,t,_,h2,h3⟩:=FA ha;rw[h3,<-h2];constructor
 ·intro h;injection h with h;rw[h];rfl
 ·intro h
  congr 1
  apply UInt8.toNat_inj.1;rw[h];rfl
def Ir(w:World)(l:List UInt8)(e:Ending)(w':World):Prop:=
 ∃v,e= .returned (.tuple #[v,.int .i64 ((Bb l).2.1:Int),.int .i64 ((Bb l).2.2:Int)])/\w'.ownsRow w.heap.size 122 3 v (Bb l).1.length (C0 (Bb l).1)/\Ext w w'
theorem Rf(w:World)(ty:TypeId)(x y z:Value):∀(j:Nat) (u:Value),[x,y,z][j]? =some u->(w.alloc (.cells #[x,y,z] ty)).cell? ((⟨w.heap.size,0,none⟩:Addr).add j)=some u:=fun j u hj=>by
 have h1:=(Blk.new w ty #[x,y,z]).cell j;have h2:(⟨w.heap.size,0,none⟩:Addr).add j=⟨w.heap.size,j,none⟩:=by
  unfold Addr.add;split
  ·rename_i h;subst h;rfl
  ·simp
 rw[h2,h1,<-hj];simp
theorem Nq{w:World}{eL:Nat}{e:TypeId}{size n:Nat}{v:Value}{xs:List Value}(h:w.ownsRow eL e size v n xs):∀k,v.ownBlock=some k->k<w.heap.size:=by
 obtain⟨h1,h2⟩:=h;rcases h2 with ⟨rfl,_⟩|⟨g,cap,cur,rfl,hg,hh,_⟩
 ·intro k hk;simp[Value.ownBlock]at hk
 ·intro k hk;simp only[Value.ownBlock,Option.some.injEq]at hk;subst hk;rcases Nat.lt_or_ge g w.heap.size with h|h
  ·exact h
  ·rw[Array.getElem?_eq_none h]at hh;cases hh
def Qr(w wr:World)(l:List UInt8)(a:Nat)(ts:List Tok)(tv:Value):Prop:=
 ts.length<=a/\wr.ownsRow w.heap.size 122 3 tv ts.length (C0 ts)/\Ext w wr/\BW wr/\C8 l a ts=Bb l
structure Ha (w wr W:World) (a k:Nat) (t:List UInt8) (ts:List Tok) (tv:Value):Prop where
 blk:Blk W wr.heap.size 122 #[.int .i64 (k:Int),.int .i64 (a:Int),str t]
 row:W.ownsRow w.heap.size 122 3 tv ts.length (C0 ts)
 own:∀b,tv.ownBlock=some b->w.heap.size<=b/\b<wr.heap.size
 ext:Ext w W
theorem Ha.start{w wr:World}{a k:Nat}{t:List UInt8}{ts:List Tok}{tv:Value}(hx:Ext w wr)(hr:wr.ownsRow w.heap.size 122 3 tv ts.length (C0 ts)):
  Ha w wr (wr.alloc (.cells #[.int .i64 (k:Int),.int .i64 (a:Int),str t] 122)).drew a k t ts tv:=
 ⟨(Blk.new wr _ _).drew,Af hr (fun g _ hg=>Below.heap_alloc _ _ g hg),fun b hb=>And.intro (AH hr b hb) (Nq hr b hb),(hx.alloc (.cells #[.int .i64 (k:Int),.int .i64 (a:Int),str t] 122)).drewN 1⟩
theorem Ha.more{w wr W W':World}{a k:Nat}{t:List UInt8}{ts:List Tok}{tv:Value}(h:Ha w wr W a k t ts tv)(hx:Ext W W'):Ha w wr W' a k t ts tv:=
 ⟨h.blk.ext hx,Af h.row (fun g _ hg=>Below.block hx g hg),h.own,h.ext.trans hx⟩
theorem Ha.done {w wr W W':World} {a k:Nat} {t:List UInt8} {ts:List Tok} {tv v':Value} (h:Ha w wr W a k t ts tv) (ho:Obj) (hg:wr.heap.size<W.heap.size)
  (ai:W'.ownsRow w.heap.size 122 3 v' (ts.length+1) (C0 ts++[.int .i64 (k:Int),.int .i64 (a:Int),str t])) (au:(W.alloc ho).grownBy W' tv.ownBlock):
  Blk W' wr.heap.size 122 #[.int .i64 (k:Int),.int .i64 (a:Int),str t]/\W'.ownsRow w.heap.size 122 3 v' (ts++[(⟨k,a,t⟩:Tok)]).length (C0 (ts++[(⟨k,a,t⟩:Tok)]))/\Ext w W':=by
 refine⟨?_,?_,?_⟩
 ·have h1:=au.block wr.heap.size (show wr.heap.size<(W.alloc ho).heap.size by simp;omega) (fun e=>by have:=(h.own _ e.symm).2;omega);exact h1.trans (h.blk.alloc ho)
 ·rw[MN,List.length_append,List.length_singleton];exact ai
 ·exact(h.ext.alloc ho).grown au (fun b hb=>(h.own b hb).1)
theorem T7{l:List UInt8}{a n:Nat}(_h:a+n<=l.length):(l.take ((a:Int)+(n:Int)).toNat).drop a=(l.drop a).take n:=by
 rw[show ((a:Int)+(n:Int)).toNat=a+n by omega,List.drop_take,Nat.add_sub_cancel_left]
theorem Lz(w:World)(l:List UInt8)(hm:BW w)(hl:l.length<=400):Calls Tryz.prog 65 #[str l] w (Ir w l):=by
 have HM:=hid hm;have HT:Hid (C8 l 0 []=Bb l):=hid (by unfold Bb C8;rw[if_neg (by omega)]);have uy:¬(400:Int)<(l.length:Int):=by omega
 have nQ:=hid (fun W hx=>HM.out.ext (w':=W) hx);obtain⟨i0,hi,aE,hz1,bx⟩:=info_parts Rw;clear hm;go_enter Tryz.func65,Tryz.ntmps65;go_wp2_with fail
 go_loopg [5,6] l.length (fun gh s5 s6 wr=>∃(a:Nat) (ts:List Tok) (tv:Value),gh=l.length-a/\s5=tv/\s6= .int .i64 (a:Int)/\a<=l.length/\Qr w wr l a ts tv)
 case atStart=>exact⟨0,[],_,rfl,rfl,rfl,Nat.zero_le _,Nat.le_refl _,⟨rfl,.inl ⟨rfl,rfl⟩⟩,Ext.refl w,HM.out,HT.out⟩
 case round=>
  obtain⟨a,ts,tv,hgg,rfl,rfl,hal,jt,a9,hx,mi,nE⟩:=hrel;have iw:=hid hgg;have eN:=hid nE;have HX:=hid hx;have ic:=hid a9;obtain⟨At,ct,W7⟩:=Ap a9;subst W7;clear hgg nE hx HT a9;by_cases hlt:a<l.length
  ·have nC:=NS hlt;have eS:=CA l a;have dl:=hid (fun W=>Hl W (Ae l a) eS);have iU:=hid (fun W=>FQ W (Ae l a) eS);have eT:=hid (fun W=>Pa W (Ae l a) eS);have ar:=hid (HX.out.alloc (.cells #[.int .i64 0,.int .i64 (a:Int),.string ⟨#[]⟩] 122));have ag:=hid (Blk.new wr 122 #[.int .i64 0,.int .i64 (a:Int),.string ⟨#[]⟩]);have eC:=HX.out.size;by_cases h32:Ae l a=32
   ·have fK:=hid (Kw (ts:=ts) hlt (nC.2 h32));have yk:((Ae l a:Int) == 32)=true:=by rw[h32];rfl
    have zx:=hid (nQ.out _ ar.out);clear nC h32 mi;go_wp2_with fail
    go_roundg (l.length-(a+1))
    case rel=>exact⟨a+1,ts,_,rfl,rfl,by go_num,by omega,by omega,Af ic.out (fun g _ hg=>Below.heap_alloc _ _ g hg),ar.out,zx.out,by rw[<-fK.out];exact eN.out⟩
    case measure=>rw[iw.out];omega
   ·have yk:((Ae l a:Int) == 32)=false:=by rw[beq_eq_false_iff_ne];omega
    have fA:l[a]?≠some 32:=fun h=>h32 (nC.1 h)
    have Vz:(0:Int)<=(a:Int):=by omega
    have ha1:(a:Int)<=(l.length:Int):=by omega
    clear nC h32 mi;cases hlet:DN (Ae l a)
    ·rw[hlet]at dl;cases hdig:C5 (Ae l a)
     ·rw[hdig]at iU;have gX:=Qv hlt hlet hdig;cases hsg:FF (Ae l a)
      ·rw[hsg]at gX eT;have HR:Hid (Bb l=([],a,6)):=hid (by rw[<-eN.out];exact E4 hlt fA gX);clear gX fA hlet hdig hsg;go_wp2_with fail;refine(dl.out _).mono ?_
       rintro e w2 ⟨rfl,rfl⟩;go_wp2_with fail;refine(iU.out _).mono ?_
       rintro e w2 ⟨rfl,rfl⟩;go_wp2_with fail;refine(eT.out _).mono ?_
       rintro e w2 ⟨rfl,rfl⟩;go_wp2_with fail;go_ret3;exact⟨_,by rw[HR.out];rfl,by rw[HR.out];exact⟨rfl,.inl ⟨rfl,rfl⟩⟩,ar.out⟩
      ·rw[hsg]at gX eT;have fK:=hid (E3 (ts:=ts) hlt fA gX);have a5:IntKind.i64.wrap ((a:Int)+1)=(a:Int)+1:=IntWalk.i64_in _ (by omega);have ha2:(0:Int)<=(a:Int)+1:=by omega
       have Vy:(a:Int)+1<=(l.length:Int):=by omega
       have Vx:(a:Int)<=(a:Int)+1:=by omega
       have k0:=ag.out.three;have lj:Hid ((l.take (a+1)).drop a=(l.drop a).take 1):=hid (by rw[List.drop_take,Nat.add_sub_cancel_left]);clear gX fA hlet hdig hsg;go_wp2_with fail;refine(dl.out _).mono ?_
       rintro e w2 ⟨rfl,rfl⟩;go_wp2_with fail;refine(iU.out _).mono ?_
       rintro e w2 ⟨rfl,rfl⟩;go_wp2_with fail;refine(eT.out _).mono ?_
       rintro e w2 ⟨rfl,rfl⟩;go_wp2_with fail
       go_region_law (fail)
       have ig:(List.drop a (List.take (a+1) l)).length=1:=by rw[lj.out,List.length_take,List.length_drop];omega
       have eg:Hid (Ha w wr _ a 3 (List.drop a (List.take (a+1) l)) ts (.slice At ts.length ct)):=hid (Ha.start HX.out ic.out);rw[show ((3:Nat):Int)=3 from rfl]at eg;have ov:wr.heap.size<(wr.alloc (.cells #[.int .i64 3,.int .i64 (a:Int),str (List.drop a (List.take (a+1) l))] 122)).drew.heap.size:=by simp
       generalize (wr.alloc (.cells #[.int .i64 3,.int .i64 (a:Int),str (List.drop a (List.take (a+1) l))] 122)).drew=v2 at *;generalize List.drop a (List.take (a+1) l)=t at *;clear k0;have V0:=hid ig;have k0:=eg.out.blk.three;have o6:ts.length<=400:=by omega
       have aq:ts.length+1<=maxLen:=by unfold maxLen;omega
       have hb2:(ts.length+1)*32<=140737488355328:=by omega
       have bB:=hid aq;have bA:=hid hb2;have d7:w.heap.size<=(v2.alloc (.cells #[.int .i64 3,.int .i64 (a:Int),str t] 122)).heap.size:=by have:=eg.out.ext.size;simp;omega
       have cd:=hid d7;have dA:Hid ((v2.alloc (.cells #[.int .i64 3,.int .i64 (a:Int),str t] 122)).ownsRow w.heap.size 122 3 (.slice At ts.length ct) ts.length (C0 ts)):=hid (Af eg.out.row (fun g _ hg=>Below.heap_alloc _ _ g hg));have cZ:=hid (Rf v2 122 (.int .i64 3) (.int .i64 (a:Int)) (str t));have ck:IntKind.i64.wrap ((a:Int)+(t.length:Int))=(a:Int)+(t.length:Int):=IntWalk.i64_in _ (by omega);clear aq hb2 d7;go_wp2_with (at_builtin;go_must (refine wpList_append_own _ rfl _ _ 115 rfl w.heap.size 122 i0 _ 3 32 Tryz.underlying115 hi aE hz1 bx rfl (by decide) _ ts.length (C0 ts) rfl dA.out ⟨v2.heap.size,0,none⟩ 1 1 [.int .i64 3,.int .i64 (a:Int),str t] rfl rfl cZ.out (by simp[Value.oneCell',str]) bB.out bA.out cd.out ?_;intro v' w' ai au _;have HD:=hid (eg.out.done _ ov ai au);obtain⟨A',c',rfl⟩:=Ap ai;have m0:=HD.out.1.three;clear ai au));go_wp2_with fail;have mY:=hid (nQ.out _ HD.out.2.2)
       go_roundg (l.length-(a+1))
       case rel=>exact⟨a+1,ts++[⟨3,a,t⟩],_,rfl,rfl,by go_num,by omega,by rw[List.length_append,List.length_singleton];omega,HD.out.2.1,HD.out.2.2,mY.out,by rw[lj.out,<-fK.out];exact eN.out⟩
       case measure=>rw[iw.out];omega
     ·rw[hdig]at iU;have gX:=OM hlt hlet hdig;have ip:=hid (fun W=>LD W (l.drop a) (by rw[List.length_drop];omega));have o9:=C9 Ca (l.drop a);rw[List.length_drop]at o9;have jM:0<An Ca (l.drop a):=FP (by rw[List.length_drop];omega) (by rw[Fl,Nat.add_zero];unfold Ca;rw[hdig];rfl);generalize An Ca (l.drop a)=n at *;have a5:IntKind.i64.wrap ((a:Int)+(n:Int))=(a:Int)+(n:Int):=IntWalk.i64_in _ (by omega);have ha2:(0:Int)<=(a:Int)+(n:Int):=by omega
      have Vy:(a:Int)+(n:Int)<=(l.length:Int):=by omega
      have Vx:(a:Int)<=(a:Int)+(n:Int):=by omega
      have k0:=ag.out.three;have lj:=hid (T7 (l:=l) (a:=a) (n:=n) (by omega));go_wp2_with fail;refine(dl.out _).mono ?_
      rintro e w2 ⟨rfl,rfl⟩;go_wp2_with fail;refine(iU.out _).mono ?_
      rintro e w2 ⟨rfl,rfl⟩;go_wp2_with fail
      go_region_law (go_simp;go_at_call 125;refine(ip.out _).mono ?_;rintro e w3 ⟨rfl,rfl⟩)
      rw[<-lj.out]at gX;have ig:(List.drop a (List.take ((a:Int)+(n:Int)).toNat l)).length=n:=by rw[lj.out,List.length_take,List.length_drop];omega
      have eg:Hid (Ha w wr _ a 1 (List.drop a (List.take ((a:Int)+(n:Int)).toNat l)) ts (.slice At ts.length ct)):=hid (Ha.start HX.out ic.out);rw[show ((1:Nat):Int)=1 from rfl]at eg;have ov:wr.heap.size<(wr.alloc (.cells #[.int .i64 1,.int .i64 (a:Int),str (List.drop a (List.take ((a:Int)+(n:Int)).toNat l))] 122)).drew.heap.size:=by simp
      generalize (wr.alloc (.cells #[.int .i64 1,.int .i64 (a:Int),str (List.drop a (List.take ((a:Int)+(n:Int)).toNat l))] 122)).drew=v2 at *;generalize List.drop a (List.take ((a:Int)+(n:Int)).toNat l)=t at *;clear k0;have q0:=eg.out.blk.three;have V0:=hid ig;have HP:=hid (fun W=>E5 W t);by_cases hc0:AX t=0
      ·rw[if_pos hc0]at gX;have fK:=hid (E3 (ts:=ts) hlt fA gX);have HC:=hid hc0;clear gX fA hlet hdig hc0;go_wp2_with fail;refine(HP.out _).mono ?_
       rintro e w5 ⟨v5,rfl,cG,hx5⟩;obtain⟨b5,n5,A5,c5,n6,A6,c6,rfl⟩:=cG.shape;have nR:=hid (eg.out.more (hx5.alloc (.cells #[.bool b5,.slice A5 n5 c5,.slice A6 n6 c6] 26)));have dy:wr.heap.size<(w5.alloc (.cells #[.bool b5,.slice A5 n5 c5,.slice A6 n6 c6] 26)).heap.size:=by have:=hx5.size;simp;omega
       clear cG hx5 q0;rw[HC.out];go_upto_region 18 with fail;generalize w5.alloc (.cells #[.bool b5,.slice A5 n5 c5,.slice A6 n6 c6] 26)=v3 at *;have k0:=nR.out.blk.three;have o6:ts.length<=400:=by omega
       have aq:ts.length+1<=maxLen:=by unfold maxLen;omega
       have hb2:(ts.length+1)*32<=140737488355328:=by omega
       have bB:=hid aq;have bA:=hid hb2;have d7:w.heap.size<=(v3.alloc (.cells #[.int .i64 1,.int .i64 (a:Int),str t] 122)).heap.size:=by have:=nR.out.ext.size;simp;omega
       have cd:=hid d7;have dA:Hid ((v3.alloc (.cells #[.int .i64 1,.int .i64 (a:Int),str t] 122)).ownsRow w.heap.size 122 3 (.slice At ts.length ct) ts.length (C0 ts)):=hid (Af nR.out.row (fun g _ hg=>Below.heap_alloc _ _ g hg));have cZ:=hid (Rf v3 122 (.int .i64 1) (.int .i64 (a:Int)) (str t));have ck:IntKind.i64.wrap ((a:Int)+(t.length:Int))=(a:Int)+(t.length:Int):=IntWalk.i64_in _ (by omega);clear aq hb2 d7;go_wp2_with (at_builtin;go_must (refine wpList_append_own _ rfl _ _ 115 rfl w.heap.size 122 i0 _ 3 32 Tryz.underlying115 hi aE hz1 bx rfl (by decide) _ ts.length (C0 ts) rfl dA.out ⟨v3.heap.size,0,none⟩ 1 1 [.int .i64 1,.int .i64 (a:Int),str t] rfl rfl cZ.out (by simp[Value.oneCell',str]) bB.out bA.out cd.out ?_;intro v' w' ai au _;have HD:=hid (nR.out.done _ dy ai au);obtain⟨A',c',rfl⟩:=Ap ai;have m0:=HD.out.1.three;clear ai au));go_wp2_with fail;have mY:=hid (nQ.out _ HD.out.2.2)
       go_roundg (l.length-(a+n))
       case rel=>exact⟨a+n,ts++[⟨1,a,t⟩],_,rfl,rfl,by go_num,by omega,by rw[List.length_append,List.length_singleton];omega,HD.out.2.1,HD.out.2.2,mY.out,by rw[lj.out,<-fK.out];exact eN.out⟩
       case measure=>rw[iw.out];omega
      ·rw[if_neg hc0]at gX;have HR:Hid (Bb l=([],a,6)):=hid (by rw[<-eN.out];exact E4 hlt fA gX);have oz:((AX t:Int) != 0)=true:=by rw[bne_iff_ne];omega
       clear gX fA hlet hdig hc0;go_wp2_with fail;refine(HP.out _).mono ?_
       rintro e w5 ⟨v5,rfl,cG,hx5⟩;obtain⟨b5,n5,A5,c5,n6,A6,c6,rfl⟩:=cG.shape;have nR:=hid (eg.out.more (hx5.alloc (.cells #[.bool b5,.slice A5 n5 c5,.slice A6 n6 c6] 26)));have dy:wr.heap.size<(w5.alloc (.cells #[.bool b5,.slice A5 n5 c5,.slice A6 n6 c6] 26)).heap.size:=by have:=hx5.size;simp;omega
       clear cG hx5 q0;go_wp2_with fail;go_ret3;exact⟨_,by rw[HR.out];rfl,by rw[HR.out];exact⟨rfl,.inl ⟨rfl,rfl⟩⟩,nR.out.ext⟩
    ·rw[hlet]at dl;have gX:=MO hlt hlet;have sd:Bf (l.drop a)=An BD (l.drop a):=by
      unfold Bf;rw[if_pos (by rw[Fl,Nat.add_zero];exact hlet)]
     have ip:=hid (fun W=>JU W (l.drop a) (by rw[List.length_drop];omega));rw[sd]at ip;have o9:=C9 BD (l.drop a);rw[List.length_drop]at o9;have jM:0<An BD (l.drop a):=FP (by rw[List.length_drop];omega) (by rw[Fl,Nat.add_zero];unfold BD;rw[hlet];rfl);clear sd;generalize An BD (l.drop a)=n at *;have a5:IntKind.i64.wrap ((a:Int)+(n:Int))=(a:Int)+(n:Int):=IntWalk.i64_in _ (by omega);have ha2:(0:Int)<=(a:Int)+(n:Int):=by omega
     have Vy:(a:Int)+(n:Int)<=(l.length:Int):=by omega
     have Vx:(a:Int)<=(a:Int)+(n:Int):=by omega
     have k0:=ag.out.three;have lj:=hid (T7 (l:=l) (a:=a) (n:=n) (by omega));go_wp2_with fail;refine(dl.out _).mono ?_
     rintro e w2 ⟨rfl,rfl⟩;go_wp2_with fail
     go_region_law (go_simp;go_at_call 123;refine(ip.out _).mono ?_;rintro e w3 ⟨rfl,rfl⟩)
     have ig:(List.drop a (List.take ((a:Int)+(n:Int)).toNat l)).length=n:=by rw[lj.out,List.length_take,List.length_drop];omega
     have eg:Hid (Ha w wr _ a 2 (List.drop a (List.take ((a:Int)+(n:Int)).toNat l)) ts (.slice At ts.length ct)):=hid (Ha.start HX.out ic.out);rw[show ((2:Nat):Int)=2 from rfl]at eg;have ov:wr.heap.size<(wr.alloc (.cells #[.int .i64 2,.int .i64 (a:Int),str (List.drop a (List.take ((a:Int)+(n:Int)).toNat l))] 122)).drew.heap.size:=by simp
     generalize (wr.alloc (.cells #[.int .i64 2,.int .i64 (a:Int),str (List.drop a (List.take ((a:Int)+(n:Int)).toNat l))] 122)).drew=v2 at *;generalize List.drop a (List.take ((a:Int)+(n:Int)).toNat l)=t at *;clear k0;have q0:=eg.out.blk.three;have V0:=hid ig;rcases Nat.lt_or_ge 24 n with h24|h24
     ·rw[if_neg (by omega)]at gX;have HR:Hid (Bb l=([],a,6)):=hid (by rw[<-eN.out];exact E4 hlt fA gX);have yB:(24:Int)<(t.length:Int):=by omega
      clear gX fA hlet ig;go_wp2_with fail;go_ret3;exact⟨_,by rw[HR.out];rfl,by rw[HR.out];exact⟨rfl,.inl ⟨rfl,rfl⟩⟩,eg.out.ext⟩
     ·rw[if_pos h24]at gX;have fK:=hid (E3 (ts:=ts) hlt fA gX);have yB:¬(24:Int)<(t.length:Int):=by omega
      clear gX fA hlet q0;have k0:=eg.out.blk.three;have o6:ts.length<=400:=by omega
      have aq:ts.length+1<=maxLen:=by unfold maxLen;omega
      have hb2:(ts.length+1)*32<=140737488355328:=by omega
      have bB:=hid aq;have bA:=hid hb2;have d7:w.heap.size<=(v2.alloc (.cells #[.int .i64 2,.int .i64 (a:Int),str t] 122)).heap.size:=by have:=eg.out.ext.size;simp;omega
      have cd:=hid d7;have dA:Hid ((v2.alloc (.cells #[.int .i64 2,.int .i64 (a:Int),str t] 122)).ownsRow w.heap.size 122 3 (.slice At ts.length ct) ts.length (C0 ts)):=hid (Af eg.out.row (fun g _ hg=>Below.heap_alloc _ _ g hg));have cZ:=hid (Rf v2 122 (.int .i64 2) (.int .i64 (a:Int)) (str t));have ck:IntKind.i64.wrap ((a:Int)+(t.length:Int))=(a:Int)+(t.length:Int):=IntWalk.i64_in _ (by omega);clear aq hb2 d7;go_wp2_with (at_builtin;go_must (refine wpList_append_own _ rfl _ _ 115 rfl w.heap.size 122 i0 _ 3 32 Tryz.underlying115 hi aE hz1 bx rfl (by decide) _ ts.length (C0 ts) rfl dA.out ⟨v2.heap.size,0,none⟩ 1 1 [.int .i64 2,.int .i64 (a:Int),str t] rfl rfl cZ.out (by simp[Value.oneCell',str]) bB.out bA.out cd.out ?_;intro v' w' ai au _;have HD:=hid (eg.out.done _ ov ai au);obtain⟨A',c',rfl⟩:=Ap ai;have m0:=HD.out.1.three;clear ai au));go_wp2_with fail;have mY:=hid (nQ.out _ HD.out.2.2)
      go_roundg (l.length-(a+n))
      case rel=>exact⟨a+n,ts++[⟨2,a,t⟩],_,rfl,rfl,by go_num,by omega,by rw[List.length_append,List.length_singleton];omega,HD.out.2.1,HD.out.2.2,mY.out,by rw[lj.out,<-fK.out];exact eN.out⟩
      case measure=>rw[iw.out];omega
  ·obtain rfl:a=l.length:=by omega
   have HR:Hid (Bb l=(ts,l.length,0)):=hid (by rw[<-eN.out];exact MW (Nat.le_refl _));clear mi;go_wp2_with fail;go_ret3;refine⟨_,by rw[HR.out];rfl,?_,HX.out⟩;rw[HR.out];exact ic.out
theorem M5(w:World)(l:List UInt8)(h:400<l.length):Calls Tryz.prog 65 #[str l] w (Ir w l):=by
 have hc:Bb l=([],0,7):=if_pos h;have h':(400:Int)<(l.length:Int):=by omega
 have HC:=hid hc;clear h hc;go_enter Tryz.func65,Tryz.ntmps65;go_wp2_with fail;go_ret3;exact⟨.slice none 0 0,by rw[HC.out];rfl,by rw[HC.out];exact⟨rfl,.inl ⟨rfl,rfl⟩⟩,Ext.refl w⟩
theorem Pb(w:World)(l:List UInt8)(hm:BW w):Calls Tryz.prog 65 #[str l] w (Ir w l):=by
 rcases Nat.lt_or_ge 400 l.length with hl|hl
 ·exact M5 w l hl
 ·exact Lz w l hm hl
def Ee(w:World)(v:Value)(ts:List Tok):Prop:=∃B,w.ownsRow B 122 3 v ts.length (C0 ts)
theorem Ee.ext{w w':World}{v:Value}{ts:List Tok}(h:Ee w v ts)(hx:Ext w w'):Ee w' v ts:=by
 obtain⟨B,h⟩:=h;exact⟨B,Af h (fun g _ hg=>Below.block hx g hg)⟩
theorem GI(ts:List Tok)(i j:Nat)(hi:i<ts.length)(hj:j<3):(C0 ts)[i*3+j]? =(Ss ts[i])[j]? :=by
 induction ts generalizing i with
 |nil=>simp at hi
 |cons t ts ih=>
  have hl:(Ss t).length=3:=rfl;unfold C0 at *;rw[List.flatMap_cons];cases i with
  |zero=>
   rw[Nat.zero_mul,Nat.zero_add,List.getElem?_append_left (by omega)];rfl
  |succ i=>
   rw[List.getElem?_append_right (by omega),hl,show (i+1)*3+j-3=i*3+j by omega,ih i (by simpa using hi)];rfl
theorem Ee.cells{w:World}{v:Value}{ts:List Tok}(h:Ee w v ts):∃A c,v= .slice A ts.length c/\(0<ts.length->∃g,A=some ⟨g,0,none⟩/\∀i (hi:i<ts.length),w.cell? ⟨g,i*3,none⟩=some (.int .i64 (ts[i].kind:Int))/\w.cell? ⟨g,i*3+1,none⟩=some (.int .i64 (ts[i].at_:Int))/\w.cell? ⟨g,i*3+2,none⟩=some (str ts[i].text)):=by
 obtain⟨B,h⟩:=h;rcases h.2 with ⟨h1,h2⟩|⟨g,cap,cur,rfl,_⟩
 ·exact⟨none,0,by rw[h1,h2],fun h3=>by omega⟩
 ·refine⟨_,_,rfl,fun _=>⟨g,rfl,fun i hi=>⟨?_,?_,?_⟩⟩⟩
  ·have h3:=h.cellAt (i*3+0) (by omega);rw[GI ts i 0 hi (by omega)]at h3;exact h3
  ·have h3:=h.cellAt (i*3+1) (by omega);rw[GI ts i 1 hi (by omega)]at h3;exact h3
  ·have h3:=h.cellAt (i*3+2) (by omega);rw[GI ts i 2 hi (by omega)]at h3;exact h3
def RV(bs:List UInt8):Array Value:=(bs.map d8).toArray
theorem Fq.block{w:World}{g:Nat}{bs:List UInt8}(h:Blk w g 5 (RV bs))(hm:bs.length<=2147483648):Fq w (.slice (some ⟨g,0,none⟩) bs.length bs.length) bs:=by
 refine⟨some ⟨g,0,none⟩,bs.length,by rw[List.length_map],by rw[List.length_map];omega,(K8 hm).1,fun _=>⟨g,0,rfl,h.lt,fun j u hj=> ?_⟩⟩;rw[h.cell,Nat.zero_add];unfold RV;rw[List.getElem?_toArray];exact hj
end Big
end Go.Proofs.YtkoaogkknnelaaaGreatDoor
