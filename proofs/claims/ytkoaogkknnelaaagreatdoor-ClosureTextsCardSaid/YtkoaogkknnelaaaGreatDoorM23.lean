import Derived.Test.YtkoaogkknnelaaaGreatDoorM22
set_option linter.unusedVariables false
set_option linter.unusedSimpArgs false
set_option maxHeartbeats 8000000
set_option maxRecDepth 100000
namespace Go.Proofs.YtkoaogkknnelaaaGreatDoor
namespace Big
open Lib renaming hid → J
open Go.RowKit
def Ar(g:Nat)(ts:List Tok)(tv:Value)(ns:List Nd)(nv:Value)(lg:Bool)(r:Option Ex × Nat)(w:World)(e:Ending)(w':World):Prop:=
 e= .returned (.tuple #[])/\∃nv',KR g nv nv' w w'/\match r with
  |(some x,b)=>RdR g w' ts b false (ns++Ag ns.length x) (lg || x.big) tv nv'
  |(none,b)=>∃ns' lg',RdR g w' ts b true ns' lg' tv nv'
section
variable {g:Nat} {ts:List Tok} {tv nv nv':Value} {ns:List Nd} {lg:Bool} {r:Option Ex × Nat} {w w':World} {e:Ending} {x:Ex} {b:Nat}
theorem Ar.some_(h:Ar g ts tv ns nv lg r w e w')(hr:r=(some x,b)):e= .returned (.tuple #[])/\∃nv',RdR g w' ts b false (ns++Ag ns.length x) (lg || x.big) tv nv'/\KR g nv nv' w w':=by
 subst hr;obtain⟨h1,nv',h2,h3⟩:=h;exact⟨h1,nv',h3,h2⟩
theorem Ar.none_(h:Ar g ts tv ns nv lg r w e w')(hr:r=(none,b)):e= .returned (.tuple #[])/\∃nv' ns' lg',RdR g w' ts b true ns' lg' tv nv'/\KR g nv nv' w w':=by
 subst hr;obtain⟨h1,nv',h2,ns',lg',h3⟩:=h;exact⟨h1,nv',ns',lg',h3,h2⟩
theorem Ar.mkN{ns':List Nd}{lg':Bool}(hr:r=(none,b))(hk:KR g nv nv' w w')(h:RdR g w' ts b true ns' lg' tv nv'):Ar g ts tv ns nv lg r w (.returned (.tuple #[])) w':=by
 subst hr;exact⟨rfl,nv',hk,ns',lg',h⟩
theorem Ar.mkS(hr:r=(some x,b))(hk:KR g nv nv' w w')(h:RdR g w' ts b false (ns++Ag ns.length x) (lg || x.big) tv nv'):Ar g ts tv ns nv lg r w (.returned (.tuple #[])) w':=by
 subst hr;exact⟨rfl,nv',hk,h⟩
theorem KR.kept1{n1 n2:Value}{q:Nat}{t:TypeId}{cs:Array Value}(hk:KR g n1 n2 w w')(hb:Blk w q t cs)(h1:q≠g)(h2:n1.ownBlock≠some q):Blk w' q t cs/\n2.ownBlock≠some q:=by
 refine⟨hk.blk hb h1 h2,fun e=> ?_⟩;have:=hb.lt;rcases hk.move _ e with h|h
 ·exact h2 h
 ·omega
theorem RdR.as(h:RdR g w ts b false ns lg tv nv){lg':Bool}(hl:lg=lg'){ns':List Nd}(hn:ns=ns'):RdR g w ts b false ns' lg' tv nv:=by subst hl;subst hn;exact h
end
theorem Ql(p:Nat->Option Ex × Nat){ts:List Tok}{a:Nat}(hlt2:a<ts.length):CZ p ts a=(if ts[a].kind=3 then Gk p ts a
   else if ts[a].kind=1 then (some (.leaf 1 ts[a].text),a+1)
   else if By ts[a].text≠0 then (match Gk p ts (a+1) with|(none,b)=>(none,b)|(some x,b)=>(some (.un (By ts[a].text) 0 x),b))
   else if ts[a].text=[112,105] then (some (.leaf 3 []),a+1)
   else if ts[a].text=[101] then (some (.leaf 4 []),a+1)
   else (some (.leaf 2 ts[a].text),a+1)):=by
 have hs:isS ts a [40]=((ts[a].kind == 3) && (ts[a].text == [40])):=by
  unfold isS;rw[qaa hlt2]
 unfold CZ;rw[qaa hlt2];simp only;by_cases h3:ts[a].kind=3
 ·rw[if_pos h3,if_pos h3];unfold Gk;rw[hs,h3];by_cases h4:ts[a].text=[40]
  ·rw[if_pos h4,h4];rfl
  ·rw[if_neg h4,if_neg (by simp[h4])]
 ·rw[if_neg h3,if_neg h3];split
  ·rfl
  ·split
   ·unfold Gk;by_cases h5:isS ts (a+1) [40]=true
    ·rw[if_pos h5,if_pos h5];rcases p (a+1+1) with ⟨_|x,b⟩
     ·rfl
     ·simp only;by_cases h6:isS ts b [41]=true
      ·rw[if_pos h6,if_pos h6]
      ·rw[if_neg h6,if_neg h6]
    ·rw[if_neg h5,if_neg h5]
   ·rfl
theorem ME{B sz n:Nat}{e:TypeId}{w:World}{v:Value}{xs:List Value}(h:w.ownsRow B e sz v n xs)(g:Nat)(hg:v.ownBlock=some g):g<w.heap.size:=by
 rcases h.2 with ⟨rfl,h2⟩|⟨g',cap,cur,rfl,hb,hh,_⟩
 ·cases hg
 ·simp only[Value.ownBlock,qaw]at hg;subst hg;rcases qam g' w.heap.size with h|h
  ·exact h
  ·rw[qba h]at hh;cases hh
def S1(g:Nat)(ts:List Tok)(tv:Value)(f a:Nat):Prop:=
 ∀w ns lg nv,RdR g w ts a false ns lg tv nv->Calls Tryz.prog 66 #[.pointer (some ⟨g,0,none⟩)] w (Ar g ts tv ns nv lg (Bh ts f a) w)
theorem OF(c:UInt8)(h:Gp c.toNat=true):By [c]=0/\([c]:List UInt8)≠[112,105]/\([c]:List UInt8)≠[101]:=by
 have hall:∀n:Fin 256,Gp n.val=true->By [UInt8.ofNat n.val]=0/\n.val≠101:=by decide+kernel
 have h1:=hall ⟨c.toNat,UInt8.toNat_lt c⟩ h;rw[UInt8.ofNat_toNat]at h1;refine⟨h1.1,by simp,fun e=>h1.2 ?_⟩;injection e with e _
 rw[e];rfl
theorem Qe(g:Nat)(ts:List Tok)(tv:Value)(f a:Nat)(ju:∀t∈ts,CB t)(hs:∀a',a<a'->S1 g ts tv f a')(w:World)(ns:List Nd)(lg:Bool)(nv:Value)(h:RdR g w ts a false ns lg tv nv):
  Calls Tryz.prog 240 #[.pointer (some ⟨g,0,none⟩)] w (Ar g ts tv ns nv lg (CZ (Bh ts f) ts a) w):=by
 have H:=J h;have HS:=J hs;have au:=h.row;obtain⟨A,c0,rfl,aa⟩:=h.tok;have ac:nv.ownBlock≠some w.heap.size:=fun e=>by have:=(ME h.row _ e);omega
 have WD:=J ac;obtain⟨A2,c2,rfl⟩:=au.shape;have hle:=h.le;have fv:=h.max;have hfew:=h.few;obtain⟨⟨k0,k1,k2,k3,k4⟩,⟨f1,f2,f3,f4⟩,hg⟩:=h.blk.five';clear h hs au ac;obtain⟨n,iz⟩:∃n,n=ts.length:=⟨_,rfl⟩;rw[<-iz]at k0 hle fv;have i7:=J iz;clear iz;rcases qam a n with hlt|fh
 ·have hlt2:a<ts.length:=by rw[<-i7.o];exact hlt
  obtain⟨b,rfl,hbg,_,hc⟩:=aa (by omega);obtain⟨q0,q1,q2⟩:=hc a hlt2;have ez:ts[a].kind=1\/ts[a].kind=2\/(ts[a].kind=3/\∃c:UInt8,ts[a].text=[c]/\Gp c.toNat=true):=by
   rcases ju ts[a] (qap hlt2) with ⟨h,_⟩|⟨h,_⟩|⟨h,c,h2,h3⟩
   ·exact .inl h
   ·exact .inr (.inl h)
   ·exact .inr (.inr ⟨h,c,h2,h3⟩)
  have hI:∀p,CZ p ts a=(if ts[a].kind=3 then Gk p ts a
   else if ts[a].kind=1 then (some (.leaf 1 ts[a].text),a+1)
   else if By ts[a].text≠0 then (match Gk p ts (a+1) with|(none,b)=>(none,b)|(some x,b)=>(some (.un (By ts[a].text) 0 x),b))
   else if ts[a].text=[112,105] then (some (.leaf 3 []),a+1)
   else if ts[a].text=[101] then (some (.leaf 4 []),a+1)
   else (some (.leaf 2 ts[a].text),a+1)):=fun p=>Ql p hlt2
  have HP:=J (hI (Bh ts f));have tw:isS ts a [40]=((ts[a].kind == 3) && (ts[a].text == [40])):=by
   unfold isS;rw[qaa hlt2]
  clear hI aa hc ju;generalize ts[a].kind=tk at *;generalize ts[a].text=tx at *;generalize ts[a].at_=ta at *;generalize hR:CZ (Bh ts f) ts a=R at *;clear hR;have z1:decide (n<=a)=false:=decide_eq_false (by omega);have z2:¬(n:Int)<=(a:Int):=by omega
  have aB:IntKind.i64.wrap ((a:Int)+1)=(a:Int)+1:=IntWalk.i64_in _ (by omega);go_enter Tryz.func240,Tryz.ntmps240;go_wp2_with fail;go_quiet (fail);obtain⟨w1,li⟩:∃w1,w1=w.drewN nq:=⟨_,rfl⟩;rw[<-li];have hd:Dr w w1:=by rw[li];exact(Dr.refl w).drewN _
  have jp:w1.heap.size=w.heap.size:=by rw[hd.heap]
  have uX:g<w1.heap.size:=by omega
  rw[<-hd.cell]at k0 k1 k2 k3 k4 q0 q1 q2;have lP:=J hd.ext;have yq:Hid ((Value.slice A2 ns.length c2).ownBlock≠some w1.heap.size):=J (by rw[jp];exact WD.o);have i3:b<w1.heap.size:=by omega
  clear li hd jp f1 f2 f3 f4;go_upto_region 2 with fail;go_region;obtain⟨w2,aY⟩:∃w2,w2=(w1.alloc (.cells #[.int .i64 (tk:Int),.int .i64 (ta:Int),str tx] 122)).drew:=⟨_,rfl⟩;rw[<-aY];have al:Ext w1 w2:=by rw[aY];exact((Ext.refl w1).alloc _).drew
  have hb2:Blk w2 w1.heap.size 122 #[.int .i64 (tk:Int),.int .i64 (ta:Int),str tx]:=by rw[aY];exact(Blk.new w1 _ _).drew
  have am:=J (lP.o.trans al);have eO:=J (H.o.keep (lP.o.trans al));have aF:=J hb2;have j0:=hb2.three';obtain⟨⟨k0,k1,k2,k3,k4⟩,⟨f1,f2,f3,f4⟩,ks⟩:=eO.o.blk.five';clear aY al hb2 q0 q1 q2 z1 z2 i3;generalize w1.heap.size=gt at *;have mn:=J uX;have qp:∀q:Nat,(lg || (Ex.leaf q []).big)=lg:=fun q=>by rw[Ex.big,qbv]
  clear qp;by_cases h1:tk=1
  ·subst h1;have jG:Hid (R=(some (.leaf 1 tx),a+1)):=J (by rw[HP.o,if_neg (by decide),if_pos rfl]);clear HP HS tw ez;go_upto_region 6 with fail;have af:=eO.o.stepR hlt2;obtain⟨w3,a5⟩:∃w3,w3=w2.setCell ⟨g,1,none⟩ (.int .i64 ((a:Int)+1)):=⟨_,rfl⟩;rw[<-a5]at af ⊢;have eV:Blk w3 gt 122 #[.int .i64 ((1:Nat):Int),.int .i64 (ta:Int),str tx]:=by
    rw[a5];exact aF.o.far (p:=⟨g,1,none⟩) (by show gt≠g;have:=mn.o;omega) _
   have aC:=J eV;have eE:=J af.1;have ck:=J ((KR.of_ext am.o).trans af.2);have j0:=eV.three';clear af a5 eV k0 k1 k2 k3 k4 f1 f2 f3 f4;have aE:=J (Ch g w3 ts (a+1) false ns lg _ _ 1 0 0 tx eE.o (by omega));go_wp2_with fail;refine aE.o.mono ?_
   rintro e w4 ⟨nv2,rfl,eJ,ej⟩;have HE:=J (And.intro (ck.o.trans eJ) ej);clear eJ ej;go_wp2_with fail
   (try simp only[Exit.inBlock,Exit.then])
   first
    |refine bodyPost_ret (results_none rfl _ _ _) rfl ?_
    |refine bodyPost_end (results_none rfl _ _ _) rfl ?_
   exact Ar.mkS jG.o HE.o.1 (HE.o.2.as (by rw[Ex.big,qbv]) rfl)
  ·have Ys:((tk:Int) == 1)=false:=by rw[beq_eq_false_iff_ne];omega
   by_cases h3:tk=3
   ·subst h3;obtain⟨xj,kT,pY⟩:By tx=0/\tx≠[112,105]/\tx≠[101]:=by
     rcases ez with h|h|⟨_,c,h,hs⟩
     ·omega
     ·omega
     ·rw[h];exact OF c hs
    have hpb:(tx == [112,105])=false:=by rw[beq_eq_false_iff_ne];exact kT
    have VA:(tx == [101])=false:=by rw[beq_eq_false_iff_ne];exact pY
    have jG:Hid (R=Gk (Bh ts f) ts a):=J (by rw[HP.o,if_pos rfl]);have iQ:=J (Gq w2 tx);rw[xj]at iQ;have pH:=J (fun W v h=>CU g W ts a false ns lg v (.slice A2 ns.length c2) [40] h);rw[show str [40]= .string ⟨#[40]⟩ from rfl]at pH;simp only[qaH,qaQ]at pH;clear HP tw ez xj kT pY h1;go_wp2_with fail;refine iQ.o.mono ?_
    rintro e w3 ⟨rfl,ae⟩;have ag:=J (am.o.trans ae);have gV:=eO.o.keep ae;have eE:=J gV;have j0:=(aF.o.ext ae).three';clear ae gV k0 k1 k2 k3 k4 f1 f2 f3 f4;obtain⟨u1,dT⟩:∃u,isS ts a [40]=u:=⟨_,rfl⟩;rw[dT]at pH;cases u1
    ·have HD:=J (jG.o.trans (Pn dT));clear dT HS;go_wp2_with fail;refine(pH.o _ _ eE.o).mono ?_
     rintro e w4 ⟨rfl,mP⟩;have ej:=eE.o.keep mP.ext;have cJ:=J ej;have aD:=J (ag.o.trans mP.ext);obtain⟨⟨k0,k1,k2,k3,k4⟩,⟨f1,f2,f3,f4⟩,rJ⟩:=ej.blk.five';clear mP ej;go_wp2_with fail
     (try simp only[Exit.inBlock,Exit.then])
     first
      |refine bodyPost_ret (results_none rfl _ _ _) rfl ?_
      |refine bodyPost_end (results_none rfl _ _ _) rfl ?_
     have h5:=cJ.o.fail;exact Ar.mkN HD.o ((KR.of_ext aD.o).trans h5.2) h5.1
    ·have nH:=J dT;clear dT;go_wp2_with fail;refine(pH.o _ _ eE.o).mono ?_
     rintro e w4 ⟨rfl,mP⟩;have ej:=eE.o.keep mP.ext;have cJ:=J ej;have aD:=J (ag.o.trans mP.ext);obtain⟨⟨k0,k1,k2,k3,k4⟩,⟨f1,f2,f3,f4⟩,rJ⟩:=ej.blk.five';clear mP ej;go_upto_region 25 with fail;have af:=cJ.o.stepR hlt2;obtain⟨w5,cA⟩:∃w5,w5=w4.setCell ⟨g,1,none⟩ (.int .i64 ((a:Int)+1)):=⟨_,rfl⟩;rw[<-cA]at af ⊢;have b9:=J ((KR.of_ext aD.o).trans af.2);have mW:=J (HS.o (a+1) (by omega) w5 ns lg _ af.1);clear af cA k0 k1 k2 k3 k4 f1 f2 f3 f4;go_wp2_with fail;refine mW.o.mono ?_
     intro e w6 aj;obtain⟨r,hr⟩:∃r,Bh ts f (a+1)=r:=⟨_,rfl⟩;obtain⟨_|x,b2⟩:=r
     ·obtain⟨rfl,bh,kP,kQ,aT,hk⟩:=aj.none_ hr;have HD:=J (jG.o.trans (K0 nH.o hr));have gA:=J (DD g w6 ts b2 true kP kQ _ bh [41] aT);rw[show str [41]= .string ⟨#[41]⟩ from rfl]at gA;simp only[qbe,qbh,qbg,if_false,qaH]at gA;have cN:=J (b9.o.trans hk);clear aj hr aT hk;go_wp2_with fail;refine gA.o.mono ?_
      rintro e w7 ⟨rfl,iE,qq⟩;have HE:=J (And.intro (cN.o.trans iE) qq);clear iE qq;go_wp2_with fail
      (try simp only[Exit.inBlock,Exit.then])
      first
       |refine bodyPost_ret (results_none rfl _ _ _) rfl ?_
       |refine bodyPost_end (results_none rfl _ _ _) rfl ?_
      exact Ar.mkN HD.o HE.o.1 HE.o.2
     ·obtain⟨rfl,bh,aT,hk⟩:=aj.some_ hr;have iU:=J hr;have gA:=J (DD g w6 ts b2 false _ _ _ bh [41] aT);rw[show str [41]= .string ⟨#[41]⟩ from rfl]at gA;simp only[qaH,qaQ]at gA;have cN:=J (b9.o.trans hk);clear aj hr aT hk;obtain⟨u2,dL⟩:∃u,isS ts b2 [41]=u:=⟨_,rfl⟩;rw[dL]at gA;cases u2
      ·have HD:=J (jG.o.trans (M4 nH.o iU.o dL));simp only[qbg,if_false,qaH]at gA;clear dL;go_wp2_with fail;refine gA.o.mono ?_
       rintro e w7 ⟨rfl,iE,qq⟩;have HE:=J (And.intro (cN.o.trans iE) qq);clear iE qq;go_wp2_with fail
       (try simp only[Exit.inBlock,Exit.then])
       first
        |refine bodyPost_ret (results_none rfl _ _ _) rfl ?_
        |refine bodyPost_end (results_none rfl _ _ _) rfl ?_
       exact Ar.mkN HD.o HE.o.1 HE.o.2
      ·have HD:=J (jG.o.trans (Pm nH.o iU.o dL));simp only[if_true,qbe]at gA;clear dL;go_wp2_with fail;refine gA.o.mono ?_
       rintro e w7 ⟨rfl,iE,qq⟩;have HE:=J (And.intro (cN.o.trans iE) qq);clear iE qq;go_wp2_with fail
       (try simp only[Exit.inBlock,Exit.then])
       first
        |refine bodyPost_ret (results_none rfl _ _ _) rfl ?_
        |refine bodyPost_end (results_none rfl _ _ _) rfl ?_
       exact Ar.mkS HD.o HE.o.1 HE.o.2
   ·have hk2:tk=2:=by
     rcases ez with h|h|⟨h,_⟩
     ·exact absurd h h1
     ·exact h
     ·exact absurd h h3
    subst hk2;clear ez tw Ys;by_cases kT:tx=[112,105]
    ·have hpb:(tx == [112,105])=true:=by rw[beq_iff_eq];exact kT
     have VA:(tx == [101])=false:=by rw[beq_eq_false_iff_ne,kT];decide
     have jG:Hid (R=(some (.leaf 3 []),a+1)):=J (by rw[HP.o,if_neg (by decide),if_neg (by decide),kT];rfl);clear HP HS kT;go_upto_region 9 with fail;have af:=eO.o.stepR hlt2;obtain⟨w3,a5⟩:∃w3,w3=w2.setCell ⟨g,1,none⟩ (.int .i64 ((a:Int)+1)):=⟨_,rfl⟩;rw[<-a5]at af ⊢;have eV:Blk w3 gt 122 #[.int .i64 ((2:Nat):Int),.int .i64 (ta:Int),str tx]:=by
      rw[a5];exact aF.o.far (p:=⟨g,1,none⟩) (by show gt≠g;have:=mn.o;omega) _
     have aC:=J eV;have eE:=J af.1;have ck:=J ((KR.of_ext am.o).trans af.2);have j0:=eV.three';clear af a5 eV k0 k1 k2 k3 k4 f1 f2 f3 f4;have aE:=J (Ch g w3 ts (a+1) false ns lg _ _ 3 0 0 [] eE.o (by omega));rw[show str []= .string ⟨#[]⟩ from rfl]at aE;go_wp2_with fail;refine aE.o.mono ?_
     rintro e w4 ⟨nv2,rfl,eJ,ej⟩;have HE:=J (And.intro (ck.o.trans eJ) ej);clear eJ ej;go_wp2_with fail
     (try simp only[Exit.inBlock,Exit.then])
     first
      |refine bodyPost_ret (results_none rfl _ _ _) rfl ?_
      |refine bodyPost_end (results_none rfl _ _ _) rfl ?_
     exact Ar.mkS jG.o HE.o.1 (HE.o.2.as (by rw[Ex.big,qbv]) rfl)
    ·have hpb:(tx == [112,105])=false:=by rw[beq_eq_false_iff_ne];exact kT
     by_cases pY:tx=[101]
     ·have VA:(tx == [101])=true:=by rw[beq_iff_eq];exact pY
      have jG:Hid (R=(some (.leaf 4 []),a+1)):=J (by rw[HP.o,if_neg (by decide),if_neg (by decide),pY];rfl);clear HP HS kT pY;go_upto_region 9 with fail;have af:=eO.o.stepR hlt2;obtain⟨w3,a5⟩:∃w3,w3=w2.setCell ⟨g,1,none⟩ (.int .i64 ((a:Int)+1)):=⟨_,rfl⟩;rw[<-a5]at af ⊢;have eV:Blk w3 gt 122 #[.int .i64 ((2:Nat):Int),.int .i64 (ta:Int),str tx]:=by
       rw[a5];exact aF.o.far (p:=⟨g,1,none⟩) (by show gt≠g;have:=mn.o;omega) _
      have aC:=J eV;have eE:=J af.1;have ck:=J ((KR.of_ext am.o).trans af.2);have j0:=eV.three';clear af a5 eV k0 k1 k2 k3 k4 f1 f2 f3 f4;have aE:=J (Ch g w3 ts (a+1) false ns lg _ _ 4 0 0 [] eE.o (by omega));rw[show str []= .string ⟨#[]⟩ from rfl]at aE;go_wp2_with fail;refine aE.o.mono ?_
      rintro e w4 ⟨nv2,rfl,eJ,ej⟩;have HE:=J (And.intro (ck.o.trans eJ) ej);clear eJ ej;go_wp2_with fail
      (try simp only[Exit.inBlock,Exit.then])
      first
       |refine bodyPost_ret (results_none rfl _ _ _) rfl ?_
       |refine bodyPost_end (results_none rfl _ _ _) rfl ?_
      exact Ar.mkS jG.o HE.o.1 (HE.o.2.as (by rw[Ex.big,qbv]) rfl)
     ·have VA:(tx == [101])=false:=by rw[beq_eq_false_iff_ne];exact pY
      have iQ:=J (fun W=>Gq W tx);by_cases hf0:By tx=0
      ·rw[hf0]at iQ;have jG:Hid (R=(some (.leaf 2 tx),a+1)):=J (by rw[HP.o,if_neg (by decide),if_neg (by decide),if_neg (by rw[hf0];simp),if_neg kT,if_neg pY]);clear HP HS kT pY hf0;go_wp2_with fail;refine(iQ.o _).mono ?_
       rintro e w2' ⟨rfl,ae⟩;have t4:=J (am.o.trans ae);have gV:=eO.o.keep ae;have ud:=J gV;have pN:=J (aF.o.ext ae);have j0:=pN.o.three';obtain⟨⟨k0,k1,k2,k3,k4⟩,⟨f1,f2,f3,f4⟩,ks⟩:=gV.blk.five';clear ae gV am eO aF;generalize t4=am at *;generalize ud=eO at *;generalize pN=aF at *;generalize w2'=w2 at *;go_upto_region 22 with fail;have af:=eO.o.stepR hlt2;obtain⟨w3,a5⟩:∃w3,w3=w2.setCell ⟨g,1,none⟩ (.int .i64 ((a:Int)+1)):=⟨_,rfl⟩;rw[<-a5]at af ⊢;have eV:Blk w3 gt 122 #[.int .i64 ((2:Nat):Int),.int .i64 (ta:Int),str tx]:=by
        rw[a5];exact aF.o.far (p:=⟨g,1,none⟩) (by show gt≠g;have:=mn.o;omega) _
       have aC:=J eV;have eE:=J af.1;have ck:=J ((KR.of_ext am.o).trans af.2);have j0:=eV.three';clear af a5 eV k0 k1 k2 k3 k4 f1 f2 f3 f4;have aE:=J (Ch g w3 ts (a+1) false ns lg _ _ 2 0 0 tx eE.o (by omega));go_wp2_with fail;refine aE.o.mono ?_
       rintro e w4 ⟨nv2,rfl,eJ,ej⟩;have HE:=J (And.intro (ck.o.trans eJ) ej);clear eJ ej;go_wp2_with fail
       (try simp only[Exit.inBlock,Exit.then])
       first
        |refine bodyPost_ret (results_none rfl _ _ _) rfl ?_
        |refine bodyPost_end (results_none rfl _ _ _) rfl ?_
       exact Ar.mkS jG.o HE.o.1 (HE.o.2.as (by rw[Ex.big,qbv]) rfl)
      ·have hfr:=Iz tx hf0;have r9:Hid (R=(match Gk (Bh ts f) ts (a+1) with|(none,b)=>(none,b)|(some x,b)=>(some (.un (By tx) 0 x),b))):=J (by rw[HP.o,if_neg (by decide),if_neg (by decide),if_pos hf0]);generalize hfk:By tx=fk at *;have hfp:(0:Int)<(fk:Int):=by omega
       have lN:=J hfr;clear HP kT pY hf0 hfk;go_wp2_with fail;refine(iQ.o _).mono ?_
       rintro e w2' ⟨rfl,ae⟩;have t4:=J (am.o.trans ae);have gV:=eO.o.keep ae;have ud:=J gV;have pN:=J (aF.o.ext ae);have j0:=pN.o.three';obtain⟨⟨k0,k1,k2,k3,k4⟩,⟨f1,f2,f3,f4⟩,ks⟩:=gV.blk.five';clear ae gV am eO aF;generalize t4=am at *;generalize ud=eO at *;generalize pN=aF at *;generalize w2'=w2 at *;go_upto_region 15 with fail;have af:=eO.o.stepR hlt2;obtain⟨w3,a5⟩:∃w3,w3=w2.setCell ⟨g,1,none⟩ (.int .i64 ((a:Int)+1)):=⟨_,rfl⟩;rw[<-a5]at af ⊢;have eV:Blk w3 gt 122 #[.int .i64 ((2:Nat):Int),.int .i64 (ta:Int),str tx]:=by
        rw[a5];exact aF.o.far (p:=⟨g,1,none⟩) (by show gt≠g;have:=mn.o;omega) _
       have aC:=J eV;have eE:=J af.1;have ck:=J ((KR.of_ext am.o).trans af.2);have j0:=eV.three';clear af a5 eV k0 k1 k2 k3 k4 f1 f2 f3 f4;have tA:gt≠g:=by have:=mn.o;omega
       have gA:=J (DD g w3 ts (a+1) false ns lg _ _ [40] eE.o);rw[show str [40]= .string ⟨#[40]⟩ from rfl]at gA;simp only[qaH,qaQ]at gA;obtain⟨u1,dT⟩:∃u,isS ts (a+1) [40]=u:=⟨_,rfl⟩;rw[dT]at gA;cases u1
       ·have HD:Hid (R=(none,a+1)):=J (by rw[r9.o,Pn dT]);simp only[qbg,if_false,qaH]at gA;clear dT HS r9;go_wp2_with fail;refine gA.o.mono ?_
        rintro e w4 ⟨rfl,eJ,ej⟩;have HE:=J (And.intro (ck.o.trans eJ) ej);clear eJ ej;go_wp2_with fail;refine(RK g ts _ _ _ _ _ _ HE.o.2).mono ?_
        rintro e w5 ⟨rfl,bM,bA⟩;have iR:=J (And.intro (HE.o.1.trans bM) bA);have ff:=J (DD g w5 ts _ true _ _ _ _ [41] bA);rw[show str [41]= .string ⟨#[41]⟩ from rfl]at ff;simp only[qbe,qbh,qbg,if_false,qaH]at ff;clear bM bA;go_wp2_with fail;refine ff.o.mono ?_
        rintro e w6 ⟨rfl,dp,iu⟩;have mt:=J (And.intro (iR.o.1.trans dp) iu);obtain⟨⟨k0,k1,k2,k3,k4⟩,_,ma⟩:=iu.blk.five';clear dp iu;go_wp2_with fail
        (try simp only[Exit.inBlock,Exit.then])
        first
         |refine bodyPost_ret (results_none rfl _ _ _) rfl ?_
         |refine bodyPost_end (results_none rfl _ _ _) rfl ?_
        exact Ar.mkN HD.o mt.o.1 mt.o.2
       ·simp only[if_true,qbe]at gA;have nH:=J dT;clear dT;go_wp2_with fail;refine gA.o.mono ?_
        rintro e w4 ⟨rfl,eJ,ej⟩;have dl:=J (ck.o.trans eJ);have YP:=J (eJ.kept1 aC.o tA yq.o);have mW:=J (HS.o (a+1+1) (by omega) w4 ns lg _ ej);have ey:=D5 ts f (a+1+1) ej.le;clear eJ ej HS;go_wp2_with fail;refine mW.o.mono ?_
        intro e w5 aj;obtain⟨r,hr⟩:∃r,Bh ts f (a+1+1)=r:=⟨_,rfl⟩;rw[hr]at ey;obtain⟨_|x,b2⟩:=r
        ·obtain⟨rfl,bh,kP,kQ,aT,hk⟩:=aj.none_ hr;have HD:Hid (R=(none,b2)):=J (by rw[r9.o,K0 nH.o hr]);have ff:=J (DD g w5 ts b2 true kP kQ _ bh [41] aT);rw[show str [41]= .string ⟨#[41]⟩ from rfl]at ff;simp only[qbe,qbh,qbg,if_false,qaH]at ff;have b9:=J (dl.o.trans hk);clear aj hr aT hk ey r9;go_wp2_with fail;refine ff.o.mono ?_
         rintro e w6 ⟨rfl,dp,iu⟩;have mt:=J (And.intro (b9.o.trans dp) iu);obtain⟨⟨k0,k1,k2,k3,k4⟩,_,ma⟩:=iu.blk.five';clear dp iu;go_wp2_with fail
         (try simp only[Exit.inBlock,Exit.then])
         first
          |refine bodyPost_ret (results_none rfl _ _ _) rfl ?_
          |refine bodyPost_end (results_none rfl _ _ _) rfl ?_
         exact Ar.mkN HD.o mt.o.1 mt.o.2
        ·obtain⟨rfl,bh,aT,hk⟩:=aj.some_ hr;have iU:=J hr;have hJ:=ey.2.2 x rfl;simp only at hJ;have ff:=J (DD g w5 ts b2 false _ _ _ bh [41] aT);rw[show str [41]= .string ⟨#[41]⟩ from rfl]at ff;simp only[qaH,qaQ]at ff;have b9:=J (dl.o.trans hk);have YO:=J (hk.kept1 YP.o.1 tA YP.o.2);have Vv:=aT.few;clear aj hr aT hk ey;obtain⟨u2,dL⟩:∃u,isS ts b2 [41]=u:=⟨_,rfl⟩;rw[dL]at ff;cases u2
         ·have HD:Hid (R=(none,b2)):=J (by rw[r9.o,M4 nH.o iU.o dL]);simp only[qbg,if_false,qaH]at ff;clear dL r9;go_wp2_with fail;refine ff.o.mono ?_
          rintro e w6 ⟨rfl,dp,iu⟩;have mt:=J (And.intro (b9.o.trans dp) iu);obtain⟨⟨k0,k1,k2,k3,k4⟩,_,ma⟩:=iu.blk.five';clear dp iu;go_wp2_with fail
          (try simp only[Exit.inBlock,Exit.then])
          first
           |refine bodyPost_ret (results_none rfl _ _ _) rfl ?_
           |refine bodyPost_end (results_none rfl _ _ _) rfl ?_
          exact Ar.mkN HD.o mt.o.1 mt.o.2
         ·have HD:Hid (R=(some (.un fk 0 x),b2+1)):=J (by rw[r9.o,Pm nH.o iU.o dL]);simp only[if_true,qbe]at ff;clear dL r9;go_wp2_with fail;refine ff.o.mono ?_
          rintro e w6 ⟨rfl,dp,iu⟩;have cN:=J (b9.o.trans dp);have HQ6:=J (dp.kept1 YO.o.1 tA YO.o.2);have fW:=J iu;obtain⟨⟨k0,k1,k2,k3,k4⟩,_,ma⟩:=iu.blk.five';have j0:=HQ6.o.1.three';clear dp iu;go_wp2_with fail;refine(iQ.o _).mono ?_
          rintro e w7 ⟨rfl,bG⟩;have jK:=J (cN.o.trans (KR.of_ext bG));have aE:=J (Ch g w7 ts (b2+1) false _ _ _ bh (fk:Int) 0 0 [] (fW.o.keep bG) (by omega));rw[show str []= .string ⟨#[]⟩ from rfl]at aE;clear bG;go_wp2_with fail;refine aE.o.mono ?_
          rintro e w8 ⟨nv2,rfl,ch,cD⟩;have ay:Al (fk:Int)=1:=by unfold Al;have:=lN.o;rw[if_neg (by omega),if_neg (by omega),if_neg (by omega)]
          have gW:EI (fk:Int) 0 0 (ns++Ag ns.length x).length []=⟨(fk:Int),(((ns++Ag ns.length x).length:Nat):Int)-1,0,0,[]⟩:=by unfold EI;rw[if_pos ay]
          rw[gW]at cD;have qk:=x.size_pos;have h10:(fk == 10)=false:=by
           rw[beq_eq_false_iff_ne];have:=lN.o;omega
          have hbg:(lg || x.big)=(lg || (Ex.un fk 0 x).big):=by rw[Ex.big,h10,qbh,Bool.false_or]
          have HF:Hid (RdR g w8 ts (b2+1) false (ns++Ag ns.length (.un fk 0 x)) (lg || (Ex.un fk 0 x).big) _ nv2):=J (cD.as hbg (by
           rw[B8,<-qan,Bu,show ((ns.length+x.size-1:Nat):Int)=((ns.length+x.size:Nat):Int)-1 by omega]))
          have gy:=J (jK.o.trans ch);clear ch cD ay gW h10 hbg;go_wp2_with fail
          (try simp only[Exit.inBlock,Exit.then])
          first
           |refine bodyPost_ret (results_none rfl _ _ _) rfl ?_
           |refine bodyPost_end (results_none rfl _ _ _) rfl ?_
          exact Ar.mkS HD.o gy.o HF.o
 ·have HI:Hid (CZ (Bh ts f) ts a=(none,a)):=J (by
   unfold CZ;rw[qaz (by rw[<-i7.o];exact fh)])
  have z1:decide (n<=a)=true:=decide_eq_true fh;have z2:(n:Int)<=(a:Int):=by omega
  clear aa;go_enter Tryz.func240,Tryz.ntmps240;go_wp2_with fail;go_quiet (fail);go_wp2_with fail
  (try simp only[Exit.inBlock,Exit.then])
  refine bodyPost_ret (results_none rfl _ _ _) rfl ?_
  have h3:=(H.o.keep ((Ext.refl w).drewN nq)).fail;exact Ar.mkN HI.o ((KR.of_ext ((Ext.refl w).drewN nq)).trans h3.2) h3.1
theorem PA{z:Int}{n:Nat}{x:Ex}(h:z=(n:Int)\/z= -(n:Int)):(Ex.un 10 z x).big=(decide (64<n) || x.big):=by
 rw[Ex.big];have:(!(decide (-64<=z/\z<=64)))=decide (64<n):=by
  rw[<-decide_not,decide_eq_decide];omega
 rw[this];rfl
theorem EO{z:Int}{len:Nat}:EI 10 0 z len []=⟨10,(len:Int)-1,0,z,[]⟩:=by
 unfold EI;rw[if_pos (by decide)]
theorem Jt{c:Nat}(h:Cw c=true):(48<=c/\c<=57)\/c=46:=by
 unfold Cw Dp at h;simp only[Bool.or_eq_true,qaM,decide_eq_true_eq,beq_iff_eq]at h;exact h
theorem Jb(g:Nat)(ts:List Tok)(tv:Value)(f a:Nat)(ju:∀t∈ts,CB t)(hs:∀a',a<a'->S1 g ts tv f a')(w:World)(ns:List Nd)(lg:Bool)(nv:Value)(h:RdR g w ts a false ns lg tv nv):
  Calls Tryz.prog 206 #[.pointer (some ⟨g,0,none⟩)] w (Ar g ts tv ns nv lg (AQ (Bh ts f) ts a) w):=by
 have fH:=J (Qe g ts tv f a ju hs w ns lg nv h);have fJ:=Jq (D5 ts f) a h.le;have fv:=h.max;have et:=J ju;clear h hs ju;have ux:=J (fun W a bad ns lg nv h=>CU g W ts a bad ns lg tv nv [94] h);have yI:=J (fun W a bad ns lg nv h=>CU g W ts a bad ns lg tv nv [45] h);rw[show str [94]= .string ⟨#[94]⟩ from rfl]at ux;rw[show str [45]= .string ⟨#[45]⟩ from rfl]at yI;go_enter Tryz.func206,Tryz.ntmps206;go_wp2_with fail;refine fH.o.mono ?_
 intro e w1 aj;obtain⟨r,hr⟩:∃r,CZ (Bh ts f) ts a=r:=⟨_,rfl⟩;rw[hr]at fJ;obtain⟨_|x,b⟩:=r
 ·obtain⟨rfl,bh,kP,kQ,aT,hk⟩:=aj.none_ hr;have HD:=J (Mz hr);have HE:=J (And.intro hk aT);have uw:=J (ux.o w1 b true kP kQ bh aT);simp only[qbe,qbh]at uw;clear aj hr aT hk fJ;go_wp2_with fail;refine uw.o.mono ?_
  rintro e w2 ⟨rfl,hd⟩;have iR:=J (And.intro (HE.o.1.trans (KR.of_ext hd.ext)) (HE.o.2.keep hd.ext));clear hd;go_wp2_with fail
  (try simp only[Exit.inBlock,Exit.then])
  first
   |refine bodyPost_ret (results_none rfl _ _ _) rfl ?_
   |refine bodyPost_end (results_none rfl _ _ _) rfl ?_
  exact Ar.mkN HD.o iR.o.1 iR.o.2
 ·obtain⟨rfl,bh,aT,hk⟩:=aj.some_ hr;have hJ:=fJ.2.2 x rfl;have fR:=fJ.2.1;simp only at hJ fR;have HR:=J hr;have HE:=J (And.intro hk aT);have uw:=J (ux.o w1 b false _ _ bh aT);simp only[qaH,qaQ]at uw;clear aj hr aT hk fJ;obtain⟨u1,dT⟩:∃u,isS ts b [94]=u:=⟨_,rfl⟩;rw[dT]at uw;cases u1
  ·have HD:=J (LA HR.o dT);clear dT;go_wp2_with fail;refine uw.o.mono ?_
   rintro e w2 ⟨rfl,hd⟩;have iR:=J (And.intro (HE.o.1.trans (KR.of_ext hd.ext)) (HE.o.2.keep hd.ext));clear hd;go_wp2_with fail
   (try simp only[Exit.inBlock,Exit.then])
   first
    |refine bodyPost_ret (results_none rfl _ _ _) rfl ?_
    |refine bodyPost_end (results_none rfl _ _ _) rfl ?_
   exact Ar.mkS HD.o iR.o.1 iR.o.2
  ·have mM:=Ct dT;have nH:=J dT;have hwb:IntKind.i64.wrap ((b:Int)+1)=(b:Int)+1:=IntWalk.i64_in _ (by omega);clear dT;go_wp2_with fail;refine uw.o.mono ?_
   rintro e w2 ⟨rfl,hd⟩;have hr2:=HE.o.2.keep hd.ext;have eO:=J hr2;have ie:=J (HE.o.1.trans (KR.of_ext hd.ext));obtain⟨⟨k0,k1,k2,k3,k4⟩,⟨f1,f2,f3,f4⟩,ks⟩:=hr2.blk.five';clear hd hr2;go_upto_region 4 with fail;have af:=eO.o.stepR mM;obtain⟨w3,a5⟩:∃w3,w3=w2.setCell ⟨g,1,none⟩ (.int .i64 ((b:Int)+1)):=⟨_,rfl⟩;rw[<-a5]at af ⊢;have ck:=J (ie.o.trans af.2);have eE:=J af.1;have mm:=J (yI.o w3 (b+1) false _ _ bh af.1);simp only[qaH,qaQ]at mm;clear af a5 k0 k1 k2 k3 k4 f1 f2 f3 f4;obtain⟨u2,dL⟩:∃u,isS ts (b+1) [45]=u:=⟨_,rfl⟩;rw[dL]at mm;cases u2
   ·have yd:=J dL;clear dL;go_wp2_with fail;refine mm.o.mono ?_
    rintro e w5 ⟨rfl,hd⟩;have bH:=J (eE.o.keep hd.ext);have b9:=J (ck.o.trans (KR.of_ext hd.ext));clear hd;obtain⟨c1,hc1⟩:∃c1,c1=b+1:=⟨_,rfl⟩;rw[<-hc1]at bH;have yU:=J hc1;have ao:Hid (EX ts c1=none->AQ (Bh ts f) ts a=(none,c1)):=J (fun h=>by rw[hc1]at h ⊢;exact Ki HR.o nH.o yd.o h);obtain⟨A,c0,rfl,aa⟩:=bH.o.tok;have tn:=bH.o.le;have oM:=bH.o.few;obtain⟨⟨k0,k1,k2,k3,k4⟩,⟨f1,f2,f3,f4⟩,kp⟩:=bH.o.blk.five';obtain⟨n,iz⟩:∃n,n=ts.length:=⟨_,rfl⟩;rw[<-iz]at k0 tn fv;have i7:=J iz;have bZ:=aa;clear iz hc1 aa;generalize hlx:(lg || x.big)=lgx at *;have WO:=J hlx;clear hlx;rcases qam c1 n with hlt|fh
    ·have hlt2:c1<ts.length:=by rw[<-i7.o];exact hlt
     obtain⟨bt,tH,hbg,i3,hc⟩:=bZ (by omega);subst tH;obtain⟨q0,q1,q2⟩:=hc c1 hlt2;have hI:EX ts c1=if ts[c1].kind=1 then C5 ts[c1].text else none:=by
      unfold EX;rw[qaa hlt2]
     have ez:ts[c1].kind=1->An Cw ts[c1].text=ts[c1].text.length:=fun h1=>by
      rcases et.o ts[c1] (qap hlt2) with ⟨_,_,h,_⟩|⟨h,_⟩|⟨h,_⟩
      ·exact h
      ·omega
      ·omega
     have iQ:=J ez;clear hc ez bZ;generalize ts[c1].kind=tk at *;generalize ts[c1].text=tx at *;have z1:decide (n<=c1)=false:=decide_eq_false (by omega);by_cases hk:tk=1
     ·subst hk;rw[if_pos rfl]at hI;by_cases hl2:tx.length<=2
      ·have z2:decide (2<tx.length)=false:=decide_eq_false (by omega);have z3:¬(2:Int)<(tx.length:Int):=by omega
       have bq:=iQ.o rfl;have ua:=J bq;obtain⟨cf,VK⟩:∃cf:World->Nat,∀W:World,(convert 9 221 (str tx)).run Tryz.prog W= .ok (.slice (some ⟨W.heap.size,0,none⟩) tx.length (cf W)) (B9 W tx):=
        ⟨fun W=>Classical.choose (DF W tx),fun W=>(Classical.choose_spec (DF W tx)).1⟩
       clear bq;go_wp2_with fail;go_quiet (fail);obtain⟨w6,cY⟩:∃w6,w6=w5.drewN nq:=⟨_,rfl⟩;rw[<-cY];have hd:Dr w5 w6:=by rw[cY];exact(Dr.refl w5).drewN _
       rw[<-hd.cell]at k0 k1 k2 k3 k4 q0 q1 q2;have aZ:=J ((hd.ext.trans (Ext.refl w6).drew).trans (FX w6.drew tx));have HI:=J hI;have cw:Hid (∀j,j<tx.length->(B9 w6.drew tx).cell? ⟨w6.heap.size,j,none⟩=some (.int .u8 (Ad tx j:Int))):=J (fun j hj=>Fl w6.drew tx j hj);clear cY hd hI;go_upto_region 10 with fail;go_region;clear VK k0 k1 k2 k3 k4 f1 f2 f3 f4 q0 q1 q2 z1 z2 z3;generalize B9 w6.drew tx=wb at *;generalize w6.heap.size=gb at *;generalize cf w6.drew=cb at *;have ke:=bH.o.keep aZ.o;have fc:=J ke;have qb:=J (b9.o.trans (KR.of_ext aZ.o));obtain⟨⟨k0,k1,k2,k3,k4⟩,⟨f1,f2,f3,f4⟩,cW⟩:=ke.blk.five';clear ke;go_wp2_with fail
       go_loop [3,82] (fun s3 s82=>∃i:Nat,i<=tx.length/\s3= .int .i64 (Em (tx.take i):Int)/\s82= .int .i64 (i:Int)/\Hid ((tx.take i).all (fun c=>Dp c.toNat)=true)) (fun _ s82=>tx.length-(intOf s82).toNat)
       case atStart=>exact⟨0,qal _,rfl,rfl,J rfl⟩
       case round=>
        obtain⟨i,hi,rfl,rfl,gf⟩:=hrel;by_cases hit:i<tx.length
        ·have af:=cw.o i hit;have jT:=Pt i gf.o hl2;have aP:=J (K5 tx i hit);have iJ:=BC tx i hit;have dP:=J (qah hit);have oV:=CL tx i;have d9:=(Ht Cw tx i (by rw[ua.o];exact hit)).2;rw[<-iJ]at d9;have fK:=Jt d9;have gS:=J iJ;obtain⟨c,hc⟩:∃c,c=Ad tx i:=⟨_,rfl⟩;rw[<-hc]at af oV fK;have ri:=J hc;clear iJ hc d9;generalize hdv:Em (tx.take i)=dv at *;have yQ:=J hdv;clear hdv;rcases fK with jU|rfl
         ·have y1:((c:Int) == 46)=false:=by rw[beq_eq_false_iff_ne];omega
          have y2:(c == 46)=false:=by rw[beq_eq_false_iff_ne];omega
          have pR:IntKind.i64.wrap (10*(dv:Int))=((10*dv:Nat):Int):=by rw[IntWalk.i64_in _ (by omega)];omega
          have hwc:IntKind.u8.wrap ((c:Int)-48)=((c-48:Nat):Int):=by
           have:IntKind.u8.wrap ((c:Int)-48)=((c:Int)-48) % 256:=rfl;rw[this];omega
          have UH:IntKind.i64.wrap (((c-48:Nat):Int))=((c-48:Nat):Int):=IntWalk.i64_in _ (by omega);obtain⟨p1,dV⟩:∃p1,p1=10*dv:=⟨_,rfl⟩;obtain⟨p2,dM⟩:∃p2,p2=c-48:=⟨_,rfl⟩;rw[<-dV]at pR;rw[<-dM]at hwc UH;have ql:IntKind.i64.wrap ((p1:Int)+(p2:Int))=((p1+p2:Nat):Int):=by rw[IntWalk.i64_in _ (by omega)];omega
          obtain⟨p3,ot⟩:∃p3,p3=p1+p2:=⟨_,rfl⟩;rw[<-ot]at ql;have HV:Hid (Em (tx.take (i+1))=p3):=J (by rw[aP.o,<-gS.o,<-ri.o,ot,dV,dM]);have j5:Hid ((tx.take (i+1)).all (fun c=>Dp c.toNat)=true):=J (by
           rw[dP.o,qcx,gf.o,qbV,List.all_nil,<-gS.o,<-ri.o];unfold Dp;simp[jU.1,jU.2])
          clear dV dM ot jU;go_wp2_with fail
          go_round
          case rel=>exact⟨i+1,by omega,by rw[HV.o],by go_num,j5⟩
          case measure=>simp[intOf];omega
         ·have ji:Hid (AQ (Bh ts f) ts a=(none,c1)):=J (ao.o (by
           rw[HI.o];unfold C5;rw[if_neg];intro hh;have h2:=qbI.1 hh.2 tx[i] (qap hit);rw[<-gS.o,<-ri.o]at h2
           revert h2
           decide))
          go_wp2_with fail
          (try simp only[Exit.inBlock,Exit.then])
          first
           |refine bodyPost_ret (results_none rfl _ _ _) rfl ?_
           |refine bodyPost_end (results_none rfl _ _ _) rfl ?_
          have h3:=fc.o.fail;exact Ar.mkN ji.o (qb.o.trans h3.2) h3.1
        ·obtain rfl:i=tx.length:=by omega
         have hal:=gf.o;rw[qak (qad _)]at hal;rw[qak (qad _)];have jv:EX ts c1=some (Em tx):=by
          rw[HI.o];unfold C5 Em;rw[if_pos ⟨hl2,hal⟩]
         have U5:=IR jv;obtain⟨z,hz⟩:∃z:Int,z=(Em tx:Int):=⟨_,rfl⟩;have eQ:Hid (AQ (Bh ts f) ts a=(some (.un 10 z x),c1+1)):=J (by
          rw[hz,yU.o];rw[yU.o]at jv;exact Oa HR.o nH.o yd.o jv)
         have vg:Hid (z=(Em tx:Int)\/z= -(Em tx:Int)):=J (by omega);generalize Em tx=dv at *;have cX:IntKind.i64.wrap ((dv:Int))=z:=by rw[IntWalk.i64_in _ (by omega),hz]
         have aB:IntKind.i64.wrap ((c1:Int)+1)=(c1:Int)+1:=IntWalk.i64_in _ (by omega);clear hal hz jv;go_upto_region 18 with fail;have af:=fc.o.stepR hlt2;obtain⟨w7,dk⟩:∃w7,w7=wb.setCell ⟨g,1,none⟩ (.int .i64 ((c1:Int)+1)):=⟨_,rfl⟩;rw[<-dk]at af ⊢;have jK:=J (qb.o.trans af.2);have Wz:=J af.1;obtain⟨⟨k0,k1,k2,k3,k4⟩,⟨f1,f2,f3,f4⟩,i2⟩:=af.1.blk.five';clear af dk;have dR:Hid (∀q,q=(lgx || decide (64<dv))->q=(lg || (Ex.un 10 z x).big)):=J (fun q hq=>by
          rw[hq,PA vg.o,<-WO.o];cases lg<;>cases x.big<;>simp)
         have mU:∀q:Bool,q=(lgx || decide (64<dv))->Hid (∃w8,w8=w7.setCell ⟨g,4,none⟩ (.bool q)/\RdR g w8 ts (c1+1) false (ns++Ag ns.length x) q _ bh/\KR g nv bh w w8):=fun q _=>J (by
          have h:=Wz.o.large q;exact⟨_,rfl,h.1,jK.o.trans h.2⟩)
         have lp:(ns++Ag ns.length x).length+1<=c1+1:=by omega
         cases lgx
         ·by_cases hq:64<dv
          ·have nz:decide (64<dv)=true:=decide_eq_true hq;have zk:(64:Int)<(dv:Int):=by omega
           have iv:true=(false || decide (64<dv)):=by rw[nz];rfl
           obtain⟨w8,dx,cD,ch⟩:=(mU true iv).o;have HQ:=J (dR.o true iv);clear iv;go_upto_region 19 with fail;rw[<-dx];have aE:=J (Ch g w8 ts (c1+1) false _ true _ bh 10 0 z [] cD lp);rw[show str []= .string ⟨#[]⟩ from rfl,EO]at aE;have gy:=J ch;clear dx cD ch mU k0 k1 k2 k3 k4 f1 f2 f3 f4;go_wp2_with fail;refine aE.o.mono ?_
           rintro e w9 ⟨nv2,rfl,cM,kf⟩;have qk:=x.size_pos;have HF:Hid (RdR g w9 ts (c1+1) false (ns++Ag ns.length (.un 10 z x)) (lg || (Ex.un 10 z x).big) _ nv2):=J (kf.as HQ.o (by
            rw[B8,<-qan,Bu,show ((ns.length+x.size-1:Nat):Int)=((ns.length+x.size:Nat):Int)-1 by omega];rfl))
           have iN:=J (gy.o.trans cM);clear cM kf;go_wp2_with fail
           (try simp only[Exit.inBlock,Exit.then])
           first
            |refine bodyPost_ret (results_none rfl _ _ _) rfl ?_
            |refine bodyPost_end (results_none rfl _ _ _) rfl ?_
           exact Ar.mkS eQ.o iN.o HF.o
          ·have nz:decide (64<dv)=false:=decide_eq_false hq;have zk:¬(64:Int)<(dv:Int):=by omega
           have iv:false=(false || decide (64<dv)):=by rw[nz];rfl
           obtain⟨w8,dx,cD,ch⟩:=(mU false iv).o;have HQ:=J (dR.o false iv);clear iv;go_upto_region 19 with fail;rw[<-dx];have aE:=J (Ch g w8 ts (c1+1) false _ false _ bh 10 0 z [] cD lp);rw[show str []= .string ⟨#[]⟩ from rfl,EO]at aE;have gy:=J ch;clear dx cD ch mU k0 k1 k2 k3 k4 f1 f2 f3 f4;go_wp2_with fail;refine aE.o.mono ?_
           rintro e w9 ⟨nv2,rfl,cM,kf⟩;have qk:=x.size_pos;have HF:Hid (RdR g w9 ts (c1+1) false (ns++Ag ns.length (.un 10 z x)) (lg || (Ex.un 10 z x).big) _ nv2):=J (kf.as HQ.o (by
            rw[B8,<-qan,Bu,show ((ns.length+x.size-1:Nat):Int)=((ns.length+x.size:Nat):Int)-1 by omega];rfl))
           have iN:=J (gy.o.trans cM);clear cM kf;go_wp2_with fail
           (try simp only[Exit.inBlock,Exit.then])
           first
            |refine bodyPost_ret (results_none rfl _ _ _) rfl ?_
            |refine bodyPost_end (results_none rfl _ _ _) rfl ?_
           exact Ar.mkS eQ.o iN.o HF.o
         ·have iv:true=(true || decide (64<dv)):=rfl;obtain⟨w8,dx,cD,ch⟩:=(mU true iv).o;have HQ:=J (dR.o true iv);clear iv;go_upto_region 19 with fail;rw[<-dx];have aE:=J (Ch g w8 ts (c1+1) false _ true _ bh 10 0 z [] cD lp);rw[show str []= .string ⟨#[]⟩ from rfl,EO]at aE;have gy:=J ch;clear dx cD ch mU k0 k1 k2 k3 k4 f1 f2 f3 f4;go_wp2_with fail;refine aE.o.mono ?_
          rintro e w9 ⟨nv2,rfl,cM,kf⟩;have qk:=x.size_pos;have HF:Hid (RdR g w9 ts (c1+1) false (ns++Ag ns.length (.un 10 z x)) (lg || (Ex.un 10 z x).big) _ nv2):=J (kf.as HQ.o (by
           rw[B8,<-qan,Bu,show ((ns.length+x.size-1:Nat):Int)=((ns.length+x.size:Nat):Int)-1 by omega];rfl))
          have iN:=J (gy.o.trans cM);clear cM kf;go_wp2_with fail
          (try simp only[Exit.inBlock,Exit.then])
          first
           |refine bodyPost_ret (results_none rfl _ _ _) rfl ?_
           |refine bodyPost_end (results_none rfl _ _ _) rfl ?_
          exact Ar.mkS eQ.o iN.o HF.o
      ·have ji:Hid (AQ (Bh ts f) ts a=(none,c1)):=J (ao.o (by rw[hI];unfold C5;rw[if_neg (fun h=>hl2 h.1)]));have z2:decide (2<tx.length)=true:=decide_eq_true (by omega);have z3:(2:Int)<(tx.length:Int):=by omega
       clear hI hl2;go_wp2_with fail;go_quiet (fail);go_wp2_with fail
       (try simp only[Exit.inBlock,Exit.then])
       first
        |refine bodyPost_ret (results_none rfl _ _ _) rfl ?_
        |refine bodyPost_end (results_none rfl _ _ _) rfl ?_
       have h3:=(bH.o.keep ((Ext.refl w5).drewN nq)).fail;exact Ar.mkN ji.o (b9.o.trans ((KR.of_ext ((Ext.refl w5).drewN nq)).trans h3.2)) h3.1
     ·have hk2:((tk:Int) != 1)=true:=by rw[bne_iff_ne];omega
      have ji:Hid (AQ (Bh ts f) ts a=(none,c1)):=J (ao.o (by rw[hI,if_neg hk]));clear hI hk;go_wp2_with fail;go_quiet (fail);go_wp2_with fail
      (try simp only[Exit.inBlock,Exit.then])
      first
       |refine bodyPost_ret (results_none rfl _ _ _) rfl ?_
       |refine bodyPost_end (results_none rfl _ _ _) rfl ?_
      have h3:=(bH.o.keep ((Ext.refl w5).drewN nq)).fail;exact Ar.mkN ji.o (b9.o.trans ((KR.of_ext ((Ext.refl w5).drewN nq)).trans h3.2)) h3.1
    ·have ji:Hid (AQ (Bh ts f) ts a=(none,c1)):=J (ao.o (by
      unfold EX;rw[qaz (by rw[<-i7.o];exact fh)]))
     have z1:decide (n<=c1)=true:=decide_eq_true fh;have z2:(n:Int)<=(c1:Int):=by omega
     clear bZ;go_wp2_with fail;go_quiet (fail);go_wp2_with fail
     (try simp only[Exit.inBlock,Exit.then])
     first
      |refine bodyPost_ret (results_none rfl _ _ _) rfl ?_
      |refine bodyPost_end (results_none rfl _ _ _) rfl ?_
     have h3:=(bH.o.keep ((Ext.refl w5).drewN nq)).fail;exact Ar.mkN ji.o (b9.o.trans ((KR.of_ext ((Ext.refl w5).drewN nq)).trans h3.2)) h3.1
   ·have tt:=Ct dL;have yd:=J dL;have vK:IntKind.i64.wrap (((b+1:Nat):Int)+1)=((b+1:Nat):Int)+1:=IntWalk.i64_in _ (by omega);clear dL;go_wp2_with fail;refine mm.o.mono ?_
    rintro e w4 ⟨rfl,hd⟩;have ej:=eE.o.keep hd.ext;have cJ:=J ej;have dl:=J (ck.o.trans (KR.of_ext hd.ext));obtain⟨⟨k0,k1,k2,k3,k4⟩,⟨f1,f2,f3,f4⟩,rJ⟩:=ej.blk.five';clear hd ej hwb;obtain⟨b1,av⟩:∃b1,b1=b+1:=⟨_,rfl⟩;rw[<-av]at k1 vK tt;have aA:=J av;clear av;go_upto_region 7 with fail;have af:=cJ.o.stepR (by rw[<-aA.o];exact tt);rw[<-aA.o]at af;obtain⟨w5,cA⟩:∃w5,w5=w4.setCell ⟨g,1,none⟩ (.int .i64 ((b1:Int)+1)):=⟨_,rfl⟩;rw[<-cA]at af ⊢;rw[aA.o]at af;have bH:=J af.1;have b9:=J (dl.o.trans af.2);clear af cA tt vK k0 k1 k2 k3 k4 f1 f2 f3 f4;obtain⟨c1,hc1⟩:∃c1,c1=b+1+1:=⟨_,rfl⟩;rw[<-hc1]at bH;have yU:=J hc1;have ao:Hid (EX ts c1=none->AQ (Bh ts f) ts a=(none,c1)):=J (fun h=>by rw[hc1]at h ⊢;exact Kj HR.o nH.o yd.o h);obtain⟨A,c0,rfl,aa⟩:=bH.o.tok;have tn:=bH.o.le;have oM:=bH.o.few;obtain⟨⟨k0,k1,k2,k3,k4⟩,⟨f1,f2,f3,f4⟩,kp⟩:=bH.o.blk.five';obtain⟨n,iz⟩:∃n,n=ts.length:=⟨_,rfl⟩;rw[<-iz]at k0 tn fv;have i7:=J iz;have bZ:=aa;clear iz hc1 aa;generalize hlx:(lg || x.big)=lgx at *;have WO:=J hlx;clear hlx;rcases qam c1 n with hlt|fh
    ·have hlt2:c1<ts.length:=by rw[<-i7.o];exact hlt
     obtain⟨bt,tH,hbg,i3,hc⟩:=bZ (by omega);subst tH;obtain⟨q0,q1,q2⟩:=hc c1 hlt2;have hI:EX ts c1=if ts[c1].kind=1 then C5 ts[c1].text else none:=by
      unfold EX;rw[qaa hlt2]
     have ez:ts[c1].kind=1->An Cw ts[c1].text=ts[c1].text.length:=fun h1=>by
      rcases et.o ts[c1] (qap hlt2) with ⟨_,_,h,_⟩|⟨h,_⟩|⟨h,_⟩
      ·exact h
      ·omega
      ·omega
     have iQ:=J ez;clear hc ez bZ;generalize ts[c1].kind=tk at *;generalize ts[c1].text=tx at *;have z1:decide (n<=c1)=false:=decide_eq_false (by omega);by_cases hk:tk=1
     ·subst hk;rw[if_pos rfl]at hI;by_cases hl2:tx.length<=2
      ·have z2:decide (2<tx.length)=false:=decide_eq_false (by omega);have z3:¬(2:Int)<(tx.length:Int):=by omega
       have bq:=iQ.o rfl;have ua:=J bq;obtain⟨cf,VK⟩:∃cf:World->Nat,∀W:World,(convert 9 221 (str tx)).run Tryz.prog W= .ok (.slice (some ⟨W.heap.size,0,none⟩) tx.length (cf W)) (B9 W tx):=
        ⟨fun W=>Classical.choose (DF W tx),fun W=>(Classical.choose_spec (DF W tx)).1⟩
       clear bq;go_wp2_with fail;go_quiet (fail);obtain⟨w6,cY⟩:∃w6,w6=w5.drewN nq:=⟨_,rfl⟩;rw[<-cY];have hd:Dr w5 w6:=by rw[cY];exact(Dr.refl w5).drewN _
       rw[<-hd.cell]at k0 k1 k2 k3 k4 q0 q1 q2;have aZ:=J ((hd.ext.trans (Ext.refl w6).drew).trans (FX w6.drew tx));have HI:=J hI;have cw:Hid (∀j,j<tx.length->(B9 w6.drew tx).cell? ⟨w6.heap.size,j,none⟩=some (.int .u8 (Ad tx j:Int))):=J (fun j hj=>Fl w6.drew tx j hj);clear cY hd hI;go_upto_region 10 with fail;go_region;clear VK k0 k1 k2 k3 k4 f1 f2 f3 f4 q0 q1 q2 z1 z2 z3;generalize B9 w6.drew tx=wb at *;generalize w6.heap.size=gb at *;generalize cf w6.drew=cb at *;have ke:=bH.o.keep aZ.o;have fc:=J ke;have qb:=J (b9.o.trans (KR.of_ext aZ.o));obtain⟨⟨k0,k1,k2,k3,k4⟩,⟨f1,f2,f3,f4⟩,cW⟩:=ke.blk.five';clear ke;go_wp2_with fail
       go_loop [3,82] (fun s3 s82=>∃i:Nat,i<=tx.length/\s3= .int .i64 (Em (tx.take i):Int)/\s82= .int .i64 (i:Int)/\Hid ((tx.take i).all (fun c=>Dp c.toNat)=true)) (fun _ s82=>tx.length-(intOf s82).toNat)
       case atStart=>exact⟨0,qal _,rfl,rfl,J rfl⟩
       case round=>
        obtain⟨i,hi,rfl,rfl,gf⟩:=hrel;by_cases hit:i<tx.length
        ·have af:=cw.o i hit;have jT:=Pt i gf.o hl2;have aP:=J (K5 tx i hit);have iJ:=BC tx i hit;have dP:=J (qah hit);have oV:=CL tx i;have d9:=(Ht Cw tx i (by rw[ua.o];exact hit)).2;rw[<-iJ]at d9;have fK:=Jt d9;have gS:=J iJ;obtain⟨c,hc⟩:∃c,c=Ad tx i:=⟨_,rfl⟩;rw[<-hc]at af oV fK;have ri:=J hc;clear iJ hc d9;generalize hdv:Em (tx.take i)=dv at *;have yQ:=J hdv;clear hdv;rcases fK with jU|rfl
         ·have y1:((c:Int) == 46)=false:=by rw[beq_eq_false_iff_ne];omega
          have y2:(c == 46)=false:=by rw[beq_eq_false_iff_ne];omega
          have pR:IntKind.i64.wrap (10*(dv:Int))=((10*dv:Nat):Int):=by rw[IntWalk.i64_in _ (by omega)];omega
          have hwc:IntKind.u8.wrap ((c:Int)-48)=((c-48:Nat):Int):=by
           have:IntKind.u8.wrap ((c:Int)-48)=((c:Int)-48) % 256:=rfl;rw[this];omega
          have UH:IntKind.i64.wrap (((c-48:Nat):Int))=((c-48:Nat):Int):=IntWalk.i64_in _ (by omega);obtain⟨p1,dV⟩:∃p1,p1=10*dv:=⟨_,rfl⟩;obtain⟨p2,dM⟩:∃p2,p2=c-48:=⟨_,rfl⟩;rw[<-dV]at pR;rw[<-dM]at hwc UH;have ql:IntKind.i64.wrap ((p1:Int)+(p2:Int))=((p1+p2:Nat):Int):=by rw[IntWalk.i64_in _ (by omega)];omega
          obtain⟨p3,ot⟩:∃p3,p3=p1+p2:=⟨_,rfl⟩;rw[<-ot]at ql;have HV:Hid (Em (tx.take (i+1))=p3):=J (by rw[aP.o,<-gS.o,<-ri.o,ot,dV,dM]);have j5:Hid ((tx.take (i+1)).all (fun c=>Dp c.toNat)=true):=J (by
           rw[dP.o,qcx,gf.o,qbV,List.all_nil,<-gS.o,<-ri.o];unfold Dp;simp[jU.1,jU.2])
          clear dV dM ot jU;go_wp2_with fail
          go_round
          case rel=>exact⟨i+1,by omega,by rw[HV.o],by go_num,j5⟩
          case measure=>simp[intOf];omega
         ·have ji:Hid (AQ (Bh ts f) ts a=(none,c1)):=J (ao.o (by
           rw[HI.o];unfold C5;rw[if_neg];intro hh;have h2:=qbI.1 hh.2 tx[i] (qap hit);rw[<-gS.o,<-ri.o]at h2
           revert h2
           decide))
          go_wp2_with fail
          (try simp only[Exit.inBlock,Exit.then])
          first
           |refine bodyPost_ret (results_none rfl _ _ _) rfl ?_
           |refine bodyPost_end (results_none rfl _ _ _) rfl ?_
          have h3:=fc.o.fail;exact Ar.mkN ji.o (qb.o.trans h3.2) h3.1
        ·obtain rfl:i=tx.length:=by omega
         have hal:=gf.o;rw[qak (qad _)]at hal;rw[qak (qad _)];have jv:EX ts c1=some (Em tx):=by
          rw[HI.o];unfold C5 Em;rw[if_pos ⟨hl2,hal⟩]
         have U5:=IR jv;obtain⟨z,hz⟩:∃z:Int,z= -(Em tx:Int):=⟨_,rfl⟩;have eQ:Hid (AQ (Bh ts f) ts a=(some (.un 10 z x),c1+1)):=J (by
          rw[hz,yU.o];rw[yU.o]at jv;exact Ob HR.o nH.o yd.o jv)
         have vg:Hid (z=(Em tx:Int)\/z= -(Em tx:Int)):=J (by omega);generalize Em tx=dv at *;have cX:IntKind.i64.wrap (-(dv:Int))=z:=by rw[IntWalk.i64_in _ (by omega),hz]
         have aB:IntKind.i64.wrap ((c1:Int)+1)=(c1:Int)+1:=IntWalk.i64_in _ (by omega);clear hal hz jv;go_upto_region 18 with fail;have af:=fc.o.stepR hlt2;obtain⟨w7,dk⟩:∃w7,w7=wb.setCell ⟨g,1,none⟩ (.int .i64 ((c1:Int)+1)):=⟨_,rfl⟩;rw[<-dk]at af ⊢;have jK:=J (qb.o.trans af.2);have Wz:=J af.1;obtain⟨⟨k0,k1,k2,k3,k4⟩,⟨f1,f2,f3,f4⟩,i2⟩:=af.1.blk.five';clear af dk;have dR:Hid (∀q,q=(lgx || decide (64<dv))->q=(lg || (Ex.un 10 z x).big)):=J (fun q hq=>by
          rw[hq,PA vg.o,<-WO.o];cases lg<;>cases x.big<;>simp)
         have mU:∀q:Bool,q=(lgx || decide (64<dv))->Hid (∃w8,w8=w7.setCell ⟨g,4,none⟩ (.bool q)/\RdR g w8 ts (c1+1) false (ns++Ag ns.length x) q _ bh/\KR g nv bh w w8):=fun q _=>J (by
          have h:=Wz.o.large q;exact⟨_,rfl,h.1,jK.o.trans h.2⟩)
         have lp:(ns++Ag ns.length x).length+1<=c1+1:=by omega
         cases lgx
         ·by_cases hq:64<dv
          ·have nz:decide (64<dv)=true:=decide_eq_true hq;have zk:(64:Int)<(dv:Int):=by omega
           have iv:true=(false || decide (64<dv)):=by rw[nz];rfl
           obtain⟨w8,dx,cD,ch⟩:=(mU true iv).o;have HQ:=J (dR.o true iv);clear iv;go_upto_region 19 with fail;rw[<-dx];have aE:=J (Ch g w8 ts (c1+1) false _ true _ bh 10 0 z [] cD lp);rw[show str []= .string ⟨#[]⟩ from rfl,EO]at aE;have gy:=J ch;clear dx cD ch mU k0 k1 k2 k3 k4 f1 f2 f3 f4;go_wp2_with fail;refine aE.o.mono ?_
           rintro e w9 ⟨nv2,rfl,cM,kf⟩;have qk:=x.size_pos;have HF:Hid (RdR g w9 ts (c1+1) false (ns++Ag ns.length (.un 10 z x)) (lg || (Ex.un 10 z x).big) _ nv2):=J (kf.as HQ.o (by
            rw[B8,<-qan,Bu,show ((ns.length+x.size-1:Nat):Int)=((ns.length+x.size:Nat):Int)-1 by omega];rfl))
           have iN:=J (gy.o.trans cM);clear cM kf;go_wp2_with fail
           (try simp only[Exit.inBlock,Exit.then])
           first
            |refine bodyPost_ret (results_none rfl _ _ _) rfl ?_
            |refine bodyPost_end (results_none rfl _ _ _) rfl ?_
           exact Ar.mkS eQ.o iN.o HF.o
          ·have nz:decide (64<dv)=false:=decide_eq_false hq;have zk:¬(64:Int)<(dv:Int):=by omega
           have iv:false=(false || decide (64<dv)):=by rw[nz];rfl
           obtain⟨w8,dx,cD,ch⟩:=(mU false iv).o;have HQ:=J (dR.o false iv);clear iv;go_upto_region 19 with fail;rw[<-dx];have aE:=J (Ch g w8 ts (c1+1) false _ false _ bh 10 0 z [] cD lp);rw[show str []= .string ⟨#[]⟩ from rfl,EO]at aE;have gy:=J ch;clear dx cD ch mU k0 k1 k2 k3 k4 f1 f2 f3 f4;go_wp2_with fail;refine aE.o.mono ?_
           rintro e w9 ⟨nv2,rfl,cM,kf⟩;have qk:=x.size_pos;have HF:Hid (RdR g w9 ts (c1+1) false (ns++Ag ns.length (.un 10 z x)) (lg || (Ex.un 10 z x).big) _ nv2):=J (kf.as HQ.o (by
            rw[B8,<-qan,Bu,show ((ns.length+x.size-1:Nat):Int)=((ns.length+x.size:Nat):Int)-1 by omega];rfl))
           have iN:=J (gy.o.trans cM);clear cM kf;go_wp2_with fail
           (try simp only[Exit.inBlock,Exit.then])
           first
            |refine bodyPost_ret (results_none rfl _ _ _) rfl ?_
            |refine bodyPost_end (results_none rfl _ _ _) rfl ?_
           exact Ar.mkS eQ.o iN.o HF.o
         ·have iv:true=(true || decide (64<dv)):=rfl;obtain⟨w8,dx,cD,ch⟩:=(mU true iv).o;have HQ:=J (dR.o true iv);clear iv;go_upto_region 19 with fail;rw[<-dx];have aE:=J (Ch g w8 ts (c1+1) false _ true _ bh 10 0 z [] cD lp);rw[show str []= .string ⟨#[]⟩ from rfl,EO]at aE;have gy:=J ch;clear dx cD ch mU k0 k1 k2 k3 k4 f1 f2 f3 f4;go_wp2_with fail;refine aE.o.mono ?_
          rintro e w9 ⟨nv2,rfl,cM,kf⟩;have qk:=x.size_pos;have HF:Hid (RdR g w9 ts (c1+1) false (ns++Ag ns.length (.un 10 z x)) (lg || (Ex.un 10 z x).big) _ nv2):=J (kf.as HQ.o (by
           rw[B8,<-qan,Bu,show ((ns.length+x.size-1:Nat):Int)=((ns.length+x.size:Nat):Int)-1 by omega];rfl))
          have iN:=J (gy.o.trans cM);clear cM kf;go_wp2_with fail
          (try simp only[Exit.inBlock,Exit.then])
          first
           |refine bodyPost_ret (results_none rfl _ _ _) rfl ?_
           |refine bodyPost_end (results_none rfl _ _ _) rfl ?_
          exact Ar.mkS eQ.o iN.o HF.o
      ·have ji:Hid (AQ (Bh ts f) ts a=(none,c1)):=J (ao.o (by rw[hI];unfold C5;rw[if_neg (fun h=>hl2 h.1)]));have z2:decide (2<tx.length)=true:=decide_eq_true (by omega);have z3:(2:Int)<(tx.length:Int):=by omega
       clear hI hl2;go_wp2_with fail;go_quiet (fail);go_wp2_with fail
       (try simp only[Exit.inBlock,Exit.then])
       first
        |refine bodyPost_ret (results_none rfl _ _ _) rfl ?_
        |refine bodyPost_end (results_none rfl _ _ _) rfl ?_
       have h3:=(bH.o.keep ((Ext.refl w5).drewN nq)).fail;exact Ar.mkN ji.o (b9.o.trans ((KR.of_ext ((Ext.refl w5).drewN nq)).trans h3.2)) h3.1
     ·have hk2:((tk:Int) != 1)=true:=by rw[bne_iff_ne];omega
      have ji:Hid (AQ (Bh ts f) ts a=(none,c1)):=J (ao.o (by rw[hI,if_neg hk]));clear hI hk;go_wp2_with fail;go_quiet (fail);go_wp2_with fail
      (try simp only[Exit.inBlock,Exit.then])
      first
       |refine bodyPost_ret (results_none rfl _ _ _) rfl ?_
       |refine bodyPost_end (results_none rfl _ _ _) rfl ?_
      have h3:=(bH.o.keep ((Ext.refl w5).drewN nq)).fail;exact Ar.mkN ji.o (b9.o.trans ((KR.of_ext ((Ext.refl w5).drewN nq)).trans h3.2)) h3.1
    ·have ji:Hid (AQ (Bh ts f) ts a=(none,c1)):=J (ao.o (by
      unfold EX;rw[qaz (by rw[<-i7.o];exact fh)]))
     have z1:decide (n<=c1)=true:=decide_eq_true fh;have z2:(n:Int)<=(c1:Int):=by omega
     clear bZ;go_wp2_with fail;go_quiet (fail);go_wp2_with fail
     (try simp only[Exit.inBlock,Exit.then])
     first
      |refine bodyPost_ret (results_none rfl _ _ _) rfl ?_
      |refine bodyPost_end (results_none rfl _ _ _) rfl ?_
     have h3:=(bH.o.keep ((Ext.refl w5).drewN nq)).fail;exact Ar.mkN ji.o (b9.o.trans ((KR.of_ext ((Ext.refl w5).drewN nq)).trans h3.2)) h3.1
section
variable {p:Nat->Option Ex × Nat} {ts:List Tok} {a b:Nat} {x:Ex}
theorem Jp(h:isS ts a [45]=false):BL p ts a=AQ p ts a:=by
 unfold BL;rw[Um h,qbc];rcases AQ p ts a with ⟨_|x,b⟩<;>rfl
theorem MC(h:isS ts a [45]=true)(hr:BL p ts (a+1)=(none,b)):BL p ts a=(none,b):=by
 unfold BL at hr ⊢;rw[TS h,show a+(Ba ts ts.length (a+1)+1)=a+1+Ba ts ts.length (a+1) by omega];rcases h2:AQ p ts (a+1+Ba ts ts.length (a+1)) with ⟨_|x,b⟩
 ·rw[h2]at hr;exact hr
 ·rw[h2]at hr;simp at hr
theorem MB(h:isS ts a [45]=true)(hr:BL p ts (a+1)=(some x,b)):BL p ts a=(some (.un 5 0 x),b):=by
 unfold BL at hr ⊢;rw[TS h,show a+(Ba ts ts.length (a+1)+1)=a+1+Ba ts ts.length (a+1) by omega];rcases h2:AQ p ts (a+1+Ba ts ts.length (a+1)) with ⟨_|y,b'⟩
 ·rw[h2]at hr;simp at hr
 ·rw[h2]at hr;simp only[Prod.mk.injEq,qaw]at hr ⊢;obtain⟨rfl,rfl⟩:=hr;exact⟨Qr _ _,rfl⟩
end
theorem Sm{len:Nat}:EI 5 0 0 len []=⟨5,(len:Int)-1,0,0,[]⟩:=by
 unfold EI;rw[if_pos (by decide)]
theorem He{k first:Int}(hk:Al k=2){len:Nat}:EI k first 0 len []=⟨k,first,(len:Int)-1,0,[]⟩:=by
 unfold EI;rw[if_neg (by rw[hk];decide),if_pos hk]
theorem N0(g:Nat)(ts:List Tok)(tv:Value)(f:Nat)(ju:∀t∈ts,CB t)(d:Nat):∀a,ts.length<=a+d->(∀a',a<a'->S1 g ts tv f a')->∀(w:World) (ns:List Nd) (lg:Bool) (nv:Value),RdR g w ts a false ns lg tv nv->
  Calls Tryz.prog 172 #[.pointer (some ⟨g,0,none⟩)] w (Ar g ts tv ns nv lg (BL (Bh ts f) ts a) w):=by
 induction d with
 |zero=>
  intro a zw hs w ns lg nv h;have hz:isS ts a [45]=false:=by
   unfold isS;rw[qaz (by omega)]
  have HM:=J (Jp (p:=Bh ts f) hz);have mm:=J (CU g w ts a false ns lg tv nv [45] h);rw[show str [45]= .string ⟨#[45]⟩ from rfl,hz]at mm;simp only[Bool.and_false]at mm;have WB:=J (fun W h=>Jb g ts tv f a ju hs W ns lg nv h);have HR:=J h;clear h hs hz zw ju;go_enter Tryz.func172,Tryz.ntmps172;go_wp2_with fail;refine mm.o.mono ?_
  rintro e w2 ⟨rfl,hd⟩;have HE:=J (And.intro (HR.o.keep hd.ext) (KR.of_ext (g:=g) (nv:=nv) hd.ext));clear hd;go_wp2_with fail;refine(WB.o w2 HE.o.1).mono ?_
  rintro e w3 aj;obtain⟨rfl,sr,dq,hm⟩:=aj;have WC:Hid (Ar g ts tv ns nv lg (BL (Bh ts f) ts a) w (.returned (.tuple #[])) w3):=J (by
   rw[HM.o];exact⟨rfl,sr,HE.o.2.trans dq,hm⟩)
  clear dq hm;go_wp2_with fail
  (try simp only[Exit.inBlock,Exit.then])
  first
   |refine bodyPost_ret (results_none rfl _ _ _) rfl ?_
   |refine bodyPost_end (results_none rfl _ _ _) rfl ?_
  exact WC.o
 |succ d ih=>
  intro a zw hs w ns lg nv h;have mm:=J (CU g w ts a false ns lg tv nv [45] h);rw[show str [45]= .string ⟨#[45]⟩ from rfl]at mm;simp only[qaH,qaQ]at mm;have HR:=J h;have et:=J ju;obtain⟨u,hz⟩:∃u,isS ts a [45]=u:=⟨_,rfl⟩;rw[hz]at mm;cases u
  ·have HM:=J (Jp (p:=Bh ts f) hz);have WB:=J (fun W h=>Jb g ts tv f a ju hs W ns lg nv h);clear h hs hz zw ju ih;go_enter Tryz.func172,Tryz.ntmps172;go_wp2_with fail;refine mm.o.mono ?_
   rintro e w2 ⟨rfl,hd⟩;have HE:=J (And.intro (HR.o.keep hd.ext) (KR.of_ext (g:=g) (nv:=nv) hd.ext));clear hd;go_wp2_with fail;refine(WB.o w2 HE.o.1).mono ?_
   rintro e w3 aj;obtain⟨rfl,sr,dq,hm⟩:=aj;have WC:Hid (Ar g ts tv ns nv lg (BL (Bh ts f) ts a) w (.returned (.tuple #[])) w3):=J (by
    rw[HM.o];exact⟨rfl,sr,HE.o.2.trans dq,hm⟩)
   clear dq hm;go_wp2_with fail
   (try simp only[Exit.inBlock,Exit.then])
   first
    |refine bodyPost_ret (results_none rfl _ _ _) rfl ?_
    |refine bodyPost_end (results_none rfl _ _ _) rfl ?_
   exact WC.o
  ·have hlt:=Ct hz;have fv:=h.max;have nM:=J (ih (a+1) (by omega) (fun a' h'=>hs a' (by omega)));have fJ:=FN (D5 ts f) (a+1) hlt;have HZ:=J hz;have pR:IntKind.i64.wrap ((a:Int)+1)=(a:Int)+1:=IntWalk.i64_in _ (by omega);clear h hs hz zw ju ih;go_enter Tryz.func172,Tryz.ntmps172;go_wp2_with fail;refine mm.o.mono ?_
   rintro e w2 ⟨rfl,hd⟩;have hr2:=HR.o.keep hd.ext;have eO:=J hr2;have ie:=J (KR.of_ext (g:=g) (nv:=nv) hd.ext);obtain⟨⟨k0,k1,k2,k3,k4⟩,⟨f1,f2,f3,f4⟩,ks⟩:=hr2.blk.five';clear hd hr2;go_upto_region 2 with fail;have af:=eO.o.stepR hlt;obtain⟨w3,a5⟩:∃w3,w3=w2.setCell ⟨g,1,none⟩ (.int .i64 ((a:Int)+1)):=⟨_,rfl⟩;rw[<-a5]at af ⊢;have ck:=J (ie.o.trans af.2);have qf:=J (nM.o w3 ns lg nv af.1);clear af a5 k0 k1 k2 k3 k4 f1 f2 f3 f4;go_wp2_with fail;refine qf.o.mono ?_
   intro e w4 aj;obtain⟨r,hr⟩:∃r,BL (Bh ts f) ts (a+1)=r:=⟨_,rfl⟩;rw[hr]at fJ;obtain⟨_|x,b⟩:=r
   ·obtain⟨rfl,rj,ns4,lg4,aT,hk⟩:=aj.none_ hr;have HD:=J (MC HZ.o hr);have HE:=J (And.intro (ck.o.trans hk) aT);obtain⟨⟨k0,k1,k2,k3,k4⟩,⟨f1,f2,f3,f4⟩,rJ⟩:=aT.blk.five';clear aj hr aT hk fJ;go_wp2_with fail
    (try simp only[Exit.inBlock,Exit.then])
    first
     |refine bodyPost_ret (results_none rfl _ _ _) rfl ?_
     |refine bodyPost_end (results_none rfl _ _ _) rfl ?_
    exact Ar.mkN HD.o HE.o.1 HE.o.2
   ·obtain⟨rfl,rj,aT,hk⟩:=aj.some_ hr;have hJ:=fJ.2.2 x rfl;have fR:=fJ.2.1;simp only at hJ fR;have HD:=J (MB HZ.o hr);have dl:=J (ck.o.trans hk);have xg:(ns++Ag ns.length x).length+1<=b:=by have:=HR.o.few;rw[Bu];omega
    have aE:=J (Ch g w4 ts b false _ _ tv rj 5 0 0 [] aT xg);rw[show str []= .string ⟨#[]⟩ from rfl,Sm]at aE;obtain⟨⟨k0,k1,k2,k3,k4⟩,⟨f1,f2,f3,f4⟩,rJ⟩:=aT.blk.five';clear aj hr aT hk fJ xg;go_wp2_with fail;refine aE.o.mono ?_
    rintro e w5 ⟨Uu,rfl,bM,bA⟩;have qk:=x.size_pos;have hbg:(lg || x.big)=(lg || (Ex.un 5 0 x).big):=by rw[Ex.big];rfl
    have HF:Hid (RdR g w5 ts b false (ns++Ag ns.length (.un 5 0 x)) (lg || (Ex.un 5 0 x).big) tv Uu):=J (bA.as hbg (by
     rw[B8,<-qan,Bu,show ((ns.length+x.size-1:Nat):Int)=((ns.length+x.size:Nat):Int)-1 by omega];rfl))
    have b9:=J (dl.o.trans bM);clear bM bA hbg;go_wp2_with fail
    (try simp only[Exit.inBlock,Exit.then])
    first
     |refine bodyPost_ret (results_none rfl _ _ _) rfl ?_
     |refine bodyPost_end (results_none rfl _ _ _) rfl ?_
    exact Ar.mkS HD.o b9.o HF.o
structure LZ (g:Nat) (ts:List Tok) (tv:Value) (ns:List Nd) (nv:Value) (lg:Bool) (w:World) (C:Option Ex × Nat) (op:Nat->Option Ex × Nat) (s1 s2:List UInt8) (k1 k2 a f b:Nat) (x:Ex) (nv':Value) (wr:World):Prop where
 rd:RdR g wr ts b false (ns++Ag ns.length x) (lg || x.big) tv nv'
 kr:KR g nv nv' w wr
 eq:C=BE op ts s1 s2 k1 k2 f x b
 fuel:ts.length<=b+f
 lo:a<=b
 sz:ns.length+x.size<=b
theorem LZ.next {g:Nat} {ts:List Tok} {tv nv bh nv2 sr rj:Value} {ns:List Nd} {lg:Bool} {w wr w1 w2 w3:World} {C:Option Ex × Nat} {op:Nat->Option Ex × Nat} {s1 s2:List UInt8} {k1 k2 a f b b' k n1 n2:Nat} {x y:Ex}
  (h:LZ g ts tv ns nv lg w C op s1 s2 k1 k2 a f b x bh wr) (hc:C=BE op ts s1 s2 k1 k2 (f-1) (.bin k x y) b') (hb:b+1+y.size<=b') (hr:RdR g w3 ts b' false (((ns++Ag ns.length x)++Ag (ns++Ag ns.length x).length y)++[⟨(k:Int),(n1:Int)-1,(n2:Int)-1,0,[]⟩]) ((lg || x.big) || y.big) tv rj)
  (dA:n1=(ns++Ag ns.length x).length) (hn2:n2=((ns++Ag ns.length x)++Ag (ns++Ag ns.length x).length y).length)
  (eS:KR g bh nv2 wr w1) (hk2:KR g nv2 sr w1 w2) (dq:KR g sr rj w2 w3):LZ g ts tv ns nv lg w C op s1 s2 k1 k2 a (f-1) b' (.bin k x y) rj w3:=by
 subst dA;subst hn2;have hx:=x.size_pos;have hy:=y.size_pos;have h1:=h.fuel;have h2:=h.lo;have h3:=h.sz;refine⟨?_,((h.kr.trans eS).trans hk2).trans dq,hc,by omega,by omega,by rw[Ex.size];omega⟩;refine hr.as (by rw[Ex.big,Bool.or_assoc]) ?_
 rw[SB];have e1:(ns++Ag ns.length x).length=ns.length+x.size:=Bu;rw[e1];have e2:((ns++Ag ns.length x)++Ag (ns.length+x.size) y).length=ns.length+x.size+y.size:=by rw[qab,e1,Ak]
 rw[e2];rw[show ((ns.length+x.size-1:Nat):Int)=((ns.length+x.size:Nat):Int)-1 by omega,show ((ns.length+x.size+y.size-1:Nat):Int)=((ns.length+x.size+y.size:Nat):Int)-1 by omega];simp only[qan]
def LoR(g:Nat)(ts:List Tok)(tv:Value)(ns:List Nd)(nv:Value)(lg:Bool)(w:World)(C:Option Ex × Nat)(op:Nat->Option Ex × Nat)(s1 s2:List UInt8)(k1 k2 a:Nat)(b:Nat)(wr:World):Prop:=
 (C=(none,b)/\∃nv' ns' lg',RdR g wr ts b true ns' lg' tv nv'/\KR g nv nv' w wr)\/∃f x nv',LZ g ts tv ns nv lg w C op s1 s2 k1 k2 a f b x nv' wr
theorem Pl{ts:List Tok}{b:Nat}{c d:List UInt8}(h:isS ts b c=true)(zu:(c == d)=false):isS ts b d=false:=by
 unfold isS at h ⊢;cases h2:ts[b]? with
 |none=>rfl
 |some t=>
  rw[h2]at h;simp only[qaM,beq_iff_eq]at h;simp only[h.2,zu,Bool.and_false]
theorem Ln(g:Nat)(ts:List Tok)(tv:Value)(f a:Nat)(ju:∀t∈ts,CB t)(hs:∀a',a<a'->S1 g ts tv f a')(w:World)(ns:List Nd)(lg:Bool)(nv:Value)(h:RdR g w ts a false ns lg tv nv):
  Calls Tryz.prog 128 #[.pointer (some ⟨g,0,none⟩)] w (Ar g ts tv ns nv lg (Gr (Bh ts f) ts a) w):=by
 have az:Hid (∀a',a<=a'->∀w ns lg nv,RdR g w ts a' false ns lg tv nv->Calls Tryz.prog 172 #[.pointer (some ⟨g,0,none⟩)] w (Ar g ts tv ns nv lg (BL (Bh ts f) ts a') w)):=
  J (fun a' ha w ns lg nv h=>N0 g ts tv f ju ts.length a' (by omega) (fun b hb=>hs b (by omega)) w ns lg nv h)
 have HG:=J (FN (D5 ts f));obtain⟨C,hC⟩:∃C,Db (BL (Bh ts f) ts) ts [42] [47] 8 9 a=C:=⟨_,rfl⟩;rw[show Gr (Bh ts f) ts a=Db (BL (Bh ts f) ts) ts [42] [47] 8 9 a from rfl,hC];generalize BL (Bh ts f) ts=op at *;clear hs ju;have eP:=J (fun W a bad ns lg nv h=>CU g W ts a bad ns lg tv nv [42] h);have fG:=J (fun W a bad ns lg nv h=>CU g W ts a bad ns lg tv nv [47] h);rw[show str [42]= .string ⟨#[42]⟩ from rfl]at eP;rw[show str [47]= .string ⟨#[47]⟩ from rfl]at fG;have hle:=h.le;have fv:=h.max;have hfew:=h.few;have HC:Hid (∀r,op a=r->C=match r with|(none,b)=>(none,b)|(some x,b)=>BE op ts [42] [47] 8 9 ts.length x b):=J (fun r hr=>by rw[<-hC];unfold Db;rw[hr]<;>(obtain⟨_|x,b⟩:=r<;>rfl));have fJ:=HG.o a hle;have HO:=J (az.o a (qad _) w ns lg nv h);clear h hC;go_enter Tryz.func128,Tryz.ntmps128;go_wp2_with fail;refine HO.o.mono ?_
 intro e w3 aj;have af:e= .returned (.tuple #[])/\∃b,LoR g ts tv ns nv lg w C op [42] [47] 8 9 a b w3:=by
  obtain⟨r,hr⟩:∃r,op a=r:=⟨_,rfl⟩;have hC:=HC.o r hr;rw[hr]at fJ;obtain⟨_|x,b⟩:=r
  ·obtain⟨rfl,bh,kP,kQ,aT,hk⟩:=aj.none_ hr;exact⟨rfl,b,.inl ⟨hC,bh,kP,kQ,aT,hk⟩⟩
  ·obtain⟨rfl,bh,aT,hk⟩:=aj.some_ hr;have xe:=fJ.2.2 x rfl;have fR:=fJ.1;simp only at xe fR;exact⟨rfl,b,.inr ⟨ts.length,x,bh,aT,hk,hC,by omega,fR,by omega⟩⟩
 obtain⟨rfl,b0,jt⟩:=af;have mj:=J jt;clear aj jt fJ HO HC;go_wp2_with fail
 go_loopg [] (ts.length-b0) (fun gh wr=>∃b,gh=ts.length-b/\LoR g ts tv ns nv lg w C op [42] [47] 8 9 a b wr)
 case atStart=>exact⟨b0,rfl,mj.o⟩
 case round=>
  obtain⟨b,iT,⟨tE,bh,kP,kQ,aT,wU⟩|⟨o9,x,bh,aL⟩⟩:=hrel
  ·have HE:=J (And.intro wU aT);have W8:=J tE;have aA:=J (eP.o wr b true kP kQ bh aT);simp only[qbe,qbh]at aA;clear iT tE aT wU mj;go_wp2_with fail;refine aA.o.mono ?_
   rintro e w4 ⟨rfl,hd⟩;have iR:=J (And.intro (HE.o.1.trans (KR.of_ext hd.ext)) (HE.o.2.keep hd.ext));have aF:=J (fG.o w4 b true kP kQ bh iR.o.2);simp only[qbe,qbh]at aF;clear hd;go_wp2_with fail;refine aF.o.mono ?_
   rintro e w5 ⟨rfl,hd⟩;have mt:=J (And.intro (iR.o.1.trans (KR.of_ext hd.ext)) (iR.o.2.keep hd.ext));clear hd;go_wp2_with fail
   (try simp only[Exit.inBlock,Exit.then])
   first
    |refine bodyPost_ret (results_none rfl _ _ _) rfl ?_
    |refine bodyPost_end (results_none rfl _ _ _) rfl ?_
   exact Ar.mkN W8.o mt.o.1 mt.o.2
  ·have fo:=J iT;have HI:=J aL;have ah:=J (eP.o wr b false _ _ bh aL.rd);simp only[qaH,qaQ]at ah;have eM:=aL.rd.le;have VR:=aL.fuel;clear iT aL mj;obtain⟨u1,dT⟩:∃u,isS ts b [42]=u:=⟨_,rfl⟩;rw[dT]at ah;cases u1
   ·go_wp2_with fail;refine ah.o.mono ?_
    rintro e zY ⟨rfl,hd⟩;have ck:=J (KR.of_ext (g:=g) (nv:=bh) hd.ext);have eE:=J (HI.o.rd.keep hd.ext);have am:=J (fG.o zY b false _ _ bh eE.o);simp only[qaH,qaQ]at am;clear hd;obtain⟨u2,dL⟩:∃u,isS ts b [47]=u:=⟨_,rfl⟩;rw[dL]at am;cases u2
    ·have dC:Hid (C=(some x,b)):=J (by rw[HI.o.eq,Hb o9 dT dL]);go_wp2_with fail;refine am.o.mono ?_
     rintro e w4 ⟨rfl,hd⟩;have HE:=J (And.intro ((HI.o.kr.trans ck.o).trans (KR.of_ext hd.ext)) (eE.o.keep hd.ext));clear hd;go_wp2_with fail
     (try simp only[Exit.inBlock,Exit.then])
     first
      |refine bodyPost_ret (results_none rfl _ _ _) rfl ?_
      |refine bodyPost_end (results_none rfl _ _ _) rfl ?_
     exact Ar.mkS dC.o HE.o.1 HE.o.2
    ·have iB:=Ct dL;have hwb:IntKind.i64.wrap ((b:Int)+1)=(b:Int)+1:=IntWalk.i64_in _ (by omega);go_wp2_with fail;refine am.o.mono ?_
     rintro e w4 ⟨rfl,hd⟩;have dl:=J (ck.o.trans (KR.of_ext hd.ext));have cJ:=J (eE.o.keep hd.ext);have aD:=J (fG.o w4 b false _ _ bh cJ.o);simp only[qaH,qaQ]at aD;rw[dL]at aD;clear hd;go_wp2_with fail;refine aD.o.mono ?_
     rintro e w5 ⟨rfl,hd⟩;have bA:=cJ.o.keep hd.ext;have bH:=J bA;have b9:=J (dl.o.trans (KR.of_ext hd.ext));obtain⟨A2,c2,rfl⟩:=bA.row.shape;obtain⟨n1,dA⟩:∃n1,n1=(ns++Ag ns.length x).length:=⟨_,rfl⟩;obtain⟨⟨k0,k1,k2,k3,k4⟩,⟨f1,f2,f3,f4⟩,kp⟩:=bA.blk.five';have jp:1<=n1:=by rw[dA,Bu];have:=x.size_pos;omega
     have oM:n1<=b:=by rw[dA];exact bA.few
     rw[<-dA]at k3;have bJ:=J dA;have y8:IntKind.i64.wrap ((n1:Int)-1)=(n1:Int)-1:=IntWalk.i64_in _ (by omega);clear hd bA dA;go_upto_region 7 with fail;have af:=bH.o.stepR iB;obtain⟨w6,cY⟩:∃w6,w6=w5.setCell ⟨g,1,none⟩ (.int .i64 ((b:Int)+1)):=⟨_,rfl⟩;rw[<-cY]at af ⊢;have cN:=J (b9.o.trans af.2);have eF:=J (az.o (b+1) (by have:=HI.o.lo;omega) w6 _ _ _ af.1);have cW:=HG.o (b+1) iB;obtain⟨r,hr⟩:∃r,op (b+1)=r:=⟨_,rfl⟩;have kM:Hid (C=H7 op ts [42] [47] 8 9 (o9-1) 9 x r):=J (by rw[HI.o.eq,IC (by omega) dT dL,hr]);rw[hr]at cW;clear af cY k0 k1 k2 k3 k4 f1 f2 f3 f4;go_wp2_with fail;refine eF.o.mono ?_
     intro e w7 aj;obtain⟨_|y,b'⟩:=r
     ·obtain⟨rfl,ld,su,sA,aT,hk⟩:=aj.none_ hr;have fR:=cW.1;simp only at fR;have cG:=cW.2.1;simp only at cG;have HF:Hid (LoR g ts tv ns nv lg w C op [42] [47] 8 9 a b' w7):=J (.inl ⟨kM.o,ld,su,sA,aT,(HI.o.kr.trans cN.o).trans hk⟩);obtain⟨⟨k0,k1,k2,k3,k4⟩,⟨f1,f2,f3,f4⟩,i2⟩:=aT.blk.five';clear aj hr aT hk cW;go_wp2_with fail
      go_roundg (ts.length-b')
      case rel=>exact⟨b',rfl,HF.o⟩
      case measure=>rw[fo.o];omega
     ·obtain⟨rfl,ld,aT,hk⟩:=aj.some_ hr;have mC:=cW.2.2 y rfl;have cG:=cW.2.1;simp only at mC cG;have jK:=J hk;have iH:((ns++Ag ns.length x)++Ag (ns++Ag ns.length x).length y).length+1<=b':=by have:=HI.o.sz;rw[Bu,Bu];omega
      have aE:=J (Ch g w7 ts b' false _ _ tv ld 9 ((n1:Int)-1) 0 [] aT iH);rw[show str []= .string ⟨#[]⟩ from rfl,He (by decide)]at aE;obtain⟨n2,hn2⟩:∃n2,n2=((ns++Ag ns.length x)++Ag (ns++Ag ns.length x).length y).length:=⟨_,rfl⟩;rw[<-hn2]at aE;have dQ:=J hn2;obtain⟨⟨k0,k1,k2,k3,k4⟩,⟨f1,f2,f3,f4⟩,i2⟩:=aT.blk.five';clear aj hr aT hk cW hn2 iH;go_wp2_with fail;refine aE.o.mono ?_
      rintro e w8 ⟨nQ,rfl,ch,cD⟩;have HF:Hid (LoR g ts tv ns nv lg w C op [42] [47] 8 9 a b' w8):=J (.inr ⟨o9-1,.bin 9 x y,nQ,HI.o.next kM.o mC cD bJ.o dQ.o cN.o jK.o ch⟩);clear ch cD;go_wp2_with fail
      go_roundg (ts.length-b')
      case rel=>exact⟨b',rfl,HF.o⟩
      case measure=>rw[fo.o];omega
   ·have iB:=Ct dT;have hwb:IntKind.i64.wrap ((b:Int)+1)=(b:Int)+1:=IntWalk.i64_in _ (by omega);have dL:=Pl (d:=[47]) dT (by decide);go_wp2_with fail;refine ah.o.mono ?_
    rintro e w4 ⟨rfl,hd⟩;have dl:=J (KR.of_ext (g:=g) (nv:=bh) hd.ext);have cJ:=J (HI.o.rd.keep hd.ext);have aD:=J (fG.o w4 b false _ _ bh cJ.o);simp only[qaH,qaQ]at aD;rw[dL]at aD;clear hd;go_wp2_with fail;refine aD.o.mono ?_
    rintro e w5 ⟨rfl,hd⟩;have bA:=cJ.o.keep hd.ext;have bH:=J bA;have b9:=J (dl.o.trans (KR.of_ext hd.ext));obtain⟨A2,c2,rfl⟩:=bA.row.shape;obtain⟨n1,dA⟩:∃n1,n1=(ns++Ag ns.length x).length:=⟨_,rfl⟩;obtain⟨⟨k0,k1,k2,k3,k4⟩,⟨f1,f2,f3,f4⟩,kp⟩:=bA.blk.five';have jp:1<=n1:=by rw[dA,Bu];have:=x.size_pos;omega
    have oM:n1<=b:=by rw[dA];exact bA.few
    rw[<-dA]at k3;have bJ:=J dA;have y8:IntKind.i64.wrap ((n1:Int)-1)=(n1:Int)-1:=IntWalk.i64_in _ (by omega);clear hd bA dA;go_upto_region 7 with fail;have af:=bH.o.stepR iB;obtain⟨w6,cY⟩:∃w6,w6=w5.setCell ⟨g,1,none⟩ (.int .i64 ((b:Int)+1)):=⟨_,rfl⟩;rw[<-cY]at af ⊢;have cN:=J (b9.o.trans af.2);have eF:=J (az.o (b+1) (by have:=HI.o.lo;omega) w6 _ _ _ af.1);have cW:=HG.o (b+1) iB;obtain⟨r,hr⟩:∃r,op (b+1)=r:=⟨_,rfl⟩;have kM:Hid (C=H7 op ts [42] [47] 8 9 (o9-1) 8 x r):=J (by rw[HI.o.eq,ID (by omega) dT,hr]);rw[hr]at cW;clear af cY k0 k1 k2 k3 k4 f1 f2 f3 f4;go_wp2_with fail;refine eF.o.mono ?_
    intro e w7 aj;obtain⟨_|y,b'⟩:=r
    ·obtain⟨rfl,ld,su,sA,aT,hk⟩:=aj.none_ hr;have fR:=cW.1;simp only at fR;have cG:=cW.2.1;simp only at cG;have HF:Hid (LoR g ts tv ns nv lg w C op [42] [47] 8 9 a b' w7):=J (.inl ⟨kM.o,ld,su,sA,aT,(HI.o.kr.trans cN.o).trans hk⟩);obtain⟨⟨k0,k1,k2,k3,k4⟩,⟨f1,f2,f3,f4⟩,i2⟩:=aT.blk.five';clear aj hr aT hk cW;go_wp2_with fail
     go_roundg (ts.length-b')
     case rel=>exact⟨b',rfl,HF.o⟩
     case measure=>rw[fo.o];omega
    ·obtain⟨rfl,ld,aT,hk⟩:=aj.some_ hr;have mC:=cW.2.2 y rfl;have cG:=cW.2.1;simp only at mC cG;have jK:=J hk;have iH:((ns++Ag ns.length x)++Ag (ns++Ag ns.length x).length y).length+1<=b':=by have:=HI.o.sz;rw[Bu,Bu];omega
     have aE:=J (Ch g w7 ts b' false _ _ tv ld 8 ((n1:Int)-1) 0 [] aT iH);rw[show str []= .string ⟨#[]⟩ from rfl,He (by decide)]at aE;obtain⟨n2,hn2⟩:∃n2,n2=((ns++Ag ns.length x)++Ag (ns++Ag ns.length x).length y).length:=⟨_,rfl⟩;rw[<-hn2]at aE;have dQ:=J hn2;obtain⟨⟨k0,k1,k2,k3,k4⟩,⟨f1,f2,f3,f4⟩,i2⟩:=aT.blk.five';clear aj hr aT hk cW hn2 iH;go_wp2_with fail;refine aE.o.mono ?_
     rintro e w8 ⟨nQ,rfl,ch,cD⟩;have HF:Hid (LoR g ts tv ns nv lg w C op [42] [47] 8 9 a b' w8):=J (.inr ⟨o9-1,.bin 8 x y,nQ,HI.o.next kM.o mC cD bJ.o dQ.o cN.o jK.o ch⟩);clear ch cD;go_wp2_with fail
     go_roundg (ts.length-b')
     case rel=>exact⟨b',rfl,HF.o⟩
     case measure=>rw[fo.o];omega
theorem RL(g:Nat)(ts:List Tok)(tv:Value)(ju:∀t∈ts,CB t)(f:Nat):∀a,ts.length<a+f->S1 g ts tv f a:=by
 induction f with
 |zero=>intro a ha w ns lg nv h;have:=h.le;omega
 |succ f ih=>
  intro a ha w ns lg nv h;have az:Hid (∀a',a<=a'->∀w ns lg nv,RdR g w ts a' false ns lg tv nv->Calls Tryz.prog 128 #[.pointer (some ⟨g,0,none⟩)] w (Ar g ts tv ns nv lg (Gr (Bh ts f) ts a') w)):=
   J (fun a' ha w ns lg nv h=>Ln g ts tv f a' ju (fun b hb=>ih b (by omega)) w ns lg nv h)
  have HG:=J (Jo (D5 ts f));obtain⟨C,hC⟩:∃C,Db (Gr (Bh ts f) ts) ts [43] [45] 6 7 a=C:=⟨_,rfl⟩;rw[show Bh ts (f+1) a=Db (Gr (Bh ts f) ts) ts [43] [45] 6 7 a from rfl,hC];generalize Gr (Bh ts f) ts=op at *;clear ih ju ha;have eP:=J (fun W a bad ns lg nv h=>CU g W ts a bad ns lg tv nv [43] h);have fG:=J (fun W a bad ns lg nv h=>CU g W ts a bad ns lg tv nv [45] h);rw[show str [43]= .string ⟨#[43]⟩ from rfl]at eP;rw[show str [45]= .string ⟨#[45]⟩ from rfl]at fG;have hle:=h.le;have fv:=h.max;have hfew:=h.few;have HC:Hid (∀r,op a=r->C=match r with|(none,b)=>(none,b)|(some x,b)=>BE op ts [43] [45] 6 7 ts.length x b):=J (fun r hr=>by rw[<-hC];unfold Db;rw[hr]<;>(obtain⟨_|x,b⟩:=r<;>rfl));have fJ:=HG.o a hle;have HO:=J (az.o a (qad _) w ns lg nv h);clear h hC;go_enter Tryz.func66,Tryz.ntmps66;go_wp2_with fail;refine HO.o.mono ?_
  intro e w3 aj;have af:e= .returned (.tuple #[])/\∃b,LoR g ts tv ns nv lg w C op [43] [45] 6 7 a b w3:=by
   obtain⟨r,hr⟩:∃r,op a=r:=⟨_,rfl⟩;have hC:=HC.o r hr;rw[hr]at fJ;obtain⟨_|x,b⟩:=r
   ·obtain⟨rfl,bh,kP,kQ,aT,hk⟩:=aj.none_ hr;exact⟨rfl,b,.inl ⟨hC,bh,kP,kQ,aT,hk⟩⟩
   ·obtain⟨rfl,bh,aT,hk⟩:=aj.some_ hr;have xe:=fJ.2.2 x rfl;have fR:=fJ.1;simp only at xe fR;exact⟨rfl,b,.inr ⟨ts.length,x,bh,aT,hk,hC,by omega,fR,by omega⟩⟩
  obtain⟨rfl,b0,jt⟩:=af;have mj:=J jt;clear aj jt fJ HO HC;go_wp2_with fail
  go_loopg [] (ts.length-b0) (fun gh wr=>∃b,gh=ts.length-b/\LoR g ts tv ns nv lg w C op [43] [45] 6 7 a b wr)
  case atStart=>exact⟨b0,rfl,mj.o⟩
  case round=>
   obtain⟨b,iT,⟨tE,bh,kP,kQ,aT,wU⟩|⟨o9,x,bh,aL⟩⟩:=hrel
   ·have HE:=J (And.intro wU aT);have W8:=J tE;have aA:=J (eP.o wr b true kP kQ bh aT);simp only[qbe,qbh]at aA;clear iT tE aT wU mj;go_wp2_with fail;refine aA.o.mono ?_
    rintro e w4 ⟨rfl,hd⟩;have iR:=J (And.intro (HE.o.1.trans (KR.of_ext hd.ext)) (HE.o.2.keep hd.ext));have aF:=J (fG.o w4 b true kP kQ bh iR.o.2);simp only[qbe,qbh]at aF;clear hd;go_wp2_with fail;refine aF.o.mono ?_
    rintro e w5 ⟨rfl,hd⟩;have mt:=J (And.intro (iR.o.1.trans (KR.of_ext hd.ext)) (iR.o.2.keep hd.ext));clear hd;go_wp2_with fail
    (try simp only[Exit.inBlock,Exit.then])
    first
     |refine bodyPost_ret (results_none rfl _ _ _) rfl ?_
     |refine bodyPost_end (results_none rfl _ _ _) rfl ?_
    exact Ar.mkN W8.o mt.o.1 mt.o.2
   ·have fo:=J iT;have HI:=J aL;have ah:=J (eP.o wr b false _ _ bh aL.rd);simp only[qaH,qaQ]at ah;have eM:=aL.rd.le;have VR:=aL.fuel;clear iT aL mj;obtain⟨u1,dT⟩:∃u,isS ts b [43]=u:=⟨_,rfl⟩;rw[dT]at ah;cases u1
    ·go_wp2_with fail;refine ah.o.mono ?_
     rintro e zY ⟨rfl,hd⟩;have ck:=J (KR.of_ext (g:=g) (nv:=bh) hd.ext);have eE:=J (HI.o.rd.keep hd.ext);have am:=J (fG.o zY b false _ _ bh eE.o);simp only[qaH,qaQ]at am;clear hd;obtain⟨u2,dL⟩:∃u,isS ts b [45]=u:=⟨_,rfl⟩;rw[dL]at am;cases u2
     ·have dC:Hid (C=(some x,b)):=J (by rw[HI.o.eq,Hb o9 dT dL]);go_wp2_with fail;refine am.o.mono ?_
      rintro e w4 ⟨rfl,hd⟩;have HE:=J (And.intro ((HI.o.kr.trans ck.o).trans (KR.of_ext hd.ext)) (eE.o.keep hd.ext));clear hd;go_wp2_with fail
      (try simp only[Exit.inBlock,Exit.then])
      first
       |refine bodyPost_ret (results_none rfl _ _ _) rfl ?_
       |refine bodyPost_end (results_none rfl _ _ _) rfl ?_
      exact Ar.mkS dC.o HE.o.1 HE.o.2
     ·have iB:=Ct dL;have hwb:IntKind.i64.wrap ((b:Int)+1)=(b:Int)+1:=IntWalk.i64_in _ (by omega);go_wp2_with fail;refine am.o.mono ?_
      rintro e w4 ⟨rfl,hd⟩;have dl:=J (ck.o.trans (KR.of_ext hd.ext));have cJ:=J (eE.o.keep hd.ext);have aD:=J (fG.o w4 b false _ _ bh cJ.o);simp only[qaH,qaQ]at aD;rw[dL]at aD;clear hd;go_wp2_with fail;refine aD.o.mono ?_
      rintro e w5 ⟨rfl,hd⟩;have bA:=cJ.o.keep hd.ext;have bH:=J bA;have b9:=J (dl.o.trans (KR.of_ext hd.ext));obtain⟨A2,c2,rfl⟩:=bA.row.shape;obtain⟨n1,dA⟩:∃n1,n1=(ns++Ag ns.length x).length:=⟨_,rfl⟩;obtain⟨⟨k0,k1,k2,k3,k4⟩,⟨f1,f2,f3,f4⟩,kp⟩:=bA.blk.five';have jp:1<=n1:=by rw[dA,Bu];have:=x.size_pos;omega
      have oM:n1<=b:=by rw[dA];exact bA.few
      rw[<-dA]at k3;have bJ:=J dA;have y8:IntKind.i64.wrap ((n1:Int)-1)=(n1:Int)-1:=IntWalk.i64_in _ (by omega);clear hd bA dA;go_upto_region 7 with fail;have af:=bH.o.stepR iB;obtain⟨w6,cY⟩:∃w6,w6=w5.setCell ⟨g,1,none⟩ (.int .i64 ((b:Int)+1)):=⟨_,rfl⟩;rw[<-cY]at af ⊢;have cN:=J (b9.o.trans af.2);have eF:=J (az.o (b+1) (by have:=HI.o.lo;omega) w6 _ _ _ af.1);have cW:=HG.o (b+1) iB;obtain⟨r,hr⟩:∃r,op (b+1)=r:=⟨_,rfl⟩;have kM:Hid (C=H7 op ts [43] [45] 6 7 (o9-1) 7 x r):=J (by rw[HI.o.eq,IC (by omega) dT dL,hr]);rw[hr]at cW;clear af cY k0 k1 k2 k3 k4 f1 f2 f3 f4;go_wp2_with fail;refine eF.o.mono ?_
      intro e w7 aj;obtain⟨_|y,b'⟩:=r
      ·obtain⟨rfl,ld,su,sA,aT,hk⟩:=aj.none_ hr;have fR:=cW.1;simp only at fR;have cG:=cW.2.1;simp only at cG;have HF:Hid (LoR g ts tv ns nv lg w C op [43] [45] 6 7 a b' w7):=J (.inl ⟨kM.o,ld,su,sA,aT,(HI.o.kr.trans cN.o).trans hk⟩);obtain⟨⟨k0,k1,k2,k3,k4⟩,⟨f1,f2,f3,f4⟩,i2⟩:=aT.blk.five';clear aj hr aT hk cW;go_wp2_with fail
       go_roundg (ts.length-b')
       case rel=>exact⟨b',rfl,HF.o⟩
       case measure=>rw[fo.o];omega
      ·obtain⟨rfl,ld,aT,hk⟩:=aj.some_ hr;have mC:=cW.2.2 y rfl;have cG:=cW.2.1;simp only at mC cG;have jK:=J hk;have iH:((ns++Ag ns.length x)++Ag (ns++Ag ns.length x).length y).length+1<=b':=by have:=HI.o.sz;rw[Bu,Bu];omega
       have aE:=J (Ch g w7 ts b' false _ _ tv ld 7 ((n1:Int)-1) 0 [] aT iH);rw[show str []= .string ⟨#[]⟩ from rfl,He (by decide)]at aE;obtain⟨n2,hn2⟩:∃n2,n2=((ns++Ag ns.length x)++Ag (ns++Ag ns.length x).length y).length:=⟨_,rfl⟩;rw[<-hn2]at aE;have dQ:=J hn2;obtain⟨⟨k0,k1,k2,k3,k4⟩,⟨f1,f2,f3,f4⟩,i2⟩:=aT.blk.five';clear aj hr aT hk cW hn2 iH;go_wp2_with fail;refine aE.o.mono ?_
       rintro e w8 ⟨nQ,rfl,ch,cD⟩;have HF:Hid (LoR g ts tv ns nv lg w C op [43] [45] 6 7 a b' w8):=J (.inr ⟨o9-1,.bin 7 x y,nQ,HI.o.next kM.o mC cD bJ.o dQ.o cN.o jK.o ch⟩);clear ch cD;go_wp2_with fail
       go_roundg (ts.length-b')
       case rel=>exact⟨b',rfl,HF.o⟩
       case measure=>rw[fo.o];omega
    ·have iB:=Ct dT;have hwb:IntKind.i64.wrap ((b:Int)+1)=(b:Int)+1:=IntWalk.i64_in _ (by omega);have dL:=Pl (d:=[45]) dT (by decide);go_wp2_with fail;refine ah.o.mono ?_
     rintro e w4 ⟨rfl,hd⟩;have dl:=J (KR.of_ext (g:=g) (nv:=bh) hd.ext);have cJ:=J (HI.o.rd.keep hd.ext);have aD:=J (fG.o w4 b false _ _ bh cJ.o);simp only[qaH,qaQ]at aD;rw[dL]at aD;clear hd;go_wp2_with fail;refine aD.o.mono ?_
     rintro e w5 ⟨rfl,hd⟩;have bA:=cJ.o.keep hd.ext;have bH:=J bA;have b9:=J (dl.o.trans (KR.of_ext hd.ext));obtain⟨A2,c2,rfl⟩:=bA.row.shape;obtain⟨n1,dA⟩:∃n1,n1=(ns++Ag ns.length x).length:=⟨_,rfl⟩;obtain⟨⟨k0,k1,k2,k3,k4⟩,⟨f1,f2,f3,f4⟩,kp⟩:=bA.blk.five';have jp:1<=n1:=by rw[dA,Bu];have:=x.size_pos;omega
     have oM:n1<=b:=by rw[dA];exact bA.few
     rw[<-dA]at k3;have bJ:=J dA;have y8:IntKind.i64.wrap ((n1:Int)-1)=(n1:Int)-1:=IntWalk.i64_in _ (by omega);clear hd bA dA;go_upto_region 7 with fail;have af:=bH.o.stepR iB;obtain⟨w6,cY⟩:∃w6,w6=w5.setCell ⟨g,1,none⟩ (.int .i64 ((b:Int)+1)):=⟨_,rfl⟩;rw[<-cY]at af ⊢;have cN:=J (b9.o.trans af.2);have eF:=J (az.o (b+1) (by have:=HI.o.lo;omega) w6 _ _ _ af.1);have cW:=HG.o (b+1) iB;obtain⟨r,hr⟩:∃r,op (b+1)=r:=⟨_,rfl⟩;have kM:Hid (C=H7 op ts [43] [45] 6 7 (o9-1) 6 x r):=J (by rw[HI.o.eq,ID (by omega) dT,hr]);rw[hr]at cW;clear af cY k0 k1 k2 k3 k4 f1 f2 f3 f4;go_wp2_with fail;refine eF.o.mono ?_
     intro e w7 aj;obtain⟨_|y,b'⟩:=r
     ·obtain⟨rfl,ld,su,sA,aT,hk⟩:=aj.none_ hr;have fR:=cW.1;simp only at fR;have cG:=cW.2.1;simp only at cG;have HF:Hid (LoR g ts tv ns nv lg w C op [43] [45] 6 7 a b' w7):=J (.inl ⟨kM.o,ld,su,sA,aT,(HI.o.kr.trans cN.o).trans hk⟩);obtain⟨⟨k0,k1,k2,k3,k4⟩,⟨f1,f2,f3,f4⟩,i2⟩:=aT.blk.five';clear aj hr aT hk cW;go_wp2_with fail
      go_roundg (ts.length-b')
      case rel=>exact⟨b',rfl,HF.o⟩
      case measure=>rw[fo.o];omega
     ·obtain⟨rfl,ld,aT,hk⟩:=aj.some_ hr;have mC:=cW.2.2 y rfl;have cG:=cW.2.1;simp only at mC cG;have jK:=J hk;have iH:((ns++Ag ns.length x)++Ag (ns++Ag ns.length x).length y).length+1<=b':=by have:=HI.o.sz;rw[Bu,Bu];omega
      have aE:=J (Ch g w7 ts b' false _ _ tv ld 6 ((n1:Int)-1) 0 [] aT iH);rw[show str []= .string ⟨#[]⟩ from rfl,He (by decide)]at aE;obtain⟨n2,hn2⟩:∃n2,n2=((ns++Ag ns.length x)++Ag (ns++Ag ns.length x).length y).length:=⟨_,rfl⟩;rw[<-hn2]at aE;have dQ:=J hn2;obtain⟨⟨k0,k1,k2,k3,k4⟩,⟨f1,f2,f3,f4⟩,i2⟩:=aT.blk.five';clear aj hr aT hk cW hn2 iH;go_wp2_with fail;refine aE.o.mono ?_
      rintro e w8 ⟨nQ,rfl,ch,cD⟩;have HF:Hid (LoR g ts tv ns nv lg w C op [43] [45] 6 7 a b' w8):=J (.inr ⟨o9-1,.bin 6 x y,nQ,HI.o.next kM.o mC cD bJ.o dQ.o cN.o jK.o ch⟩);clear ch cD;go_wp2_with fail
      go_roundg (ts.length-b')
      case rel=>exact⟨b',rfl,HF.o⟩
      case measure=>rw[fo.o];omega
theorem Kh(w:World)(k:Int):Calls Tryz.prog 174 #[.int .i64 k] w fun e w'=>e= .returned (.int .i64 (Al k))/\w=w':=by
 have key:(k<1/\Al k= -1)\/(1<=k/\k<=4/\Al k=0)\/(k=5/\Al k=1)\/(6<=k/\k<=9/\Al k=2)\/(10<=k/\k<=16/\Al k=1)\/(17<=k/\Al k= -1):=by
  unfold Al;by_cases h1:k<1
  ·simp[h1]
  by_cases h2:16<k
  ·simp[h1,h2];omega
  by_cases h3:k<=4
  ·simp[h1,h2,h3];omega
  by_cases h4:6<=k/\k<=9
  ·simp[h1,h2,h3,h4]
  ·simp[h1,h2,h3,h4];omega
 rcases key with ⟨h1,h⟩|⟨h1,h2,h⟩|⟨rfl,h⟩|⟨h1,h2,h⟩|⟨h1,h2,h⟩|⟨h1,h⟩
 ·have H:=J h;have d1:decide (k>=1)=false:=decide_eq_false (by omega);have Wg:¬1<=k:=by omega
  have d2:(k == 5)=false:=by rw[beq_eq_false_iff_ne];omega
  have d3:decide (k>=10)=false:=decide_eq_false (by omega);have Yw:¬10<=k:=by omega
  have d4:decide (k>=6)=false:=decide_eq_false (by omega);have d4':¬6<=k:=by omega
  clear h;go_enter Tryz.func174,Tryz.ntmps174;go_wp2_with fail;go_ret;exact⟨by rw[H.o];rfl,rfl⟩
 ·have H:=J h;clear h;go_enter Tryz.func174,Tryz.ntmps174;go_wp2_with fail;go_ret;exact⟨by rw[H.o];rfl,rfl⟩
 ·have H:=J h;clear h;go_enter Tryz.func174,Tryz.ntmps174;go_wp2_with fail;go_ret;exact⟨by rw[H.o];rfl,rfl⟩
 ·have H:=J h;have Wg:1<=k:=by omega
  have xM:¬k<=4:=by omega
  have d2:(k == 5)=false:=by rw[beq_eq_false_iff_ne];omega
  have Yw:¬10<=k:=by omega
  clear h;go_enter Tryz.func174,Tryz.ntmps174;go_wp2_with fail;go_ret;exact⟨by rw[H.o];rfl,rfl⟩
 ·have H:=J h;have Wg:1<=k:=by omega
  have xM:¬k<=4:=by omega
  have d2:(k == 5)=false:=by rw[beq_eq_false_iff_ne];omega
  clear h;go_enter Tryz.func174,Tryz.ntmps174;go_wp2_with fail;go_ret;exact⟨by rw[H.o];rfl,rfl⟩
 ·have H:=J h;have Wg:1<=k:=by omega
  have xM:¬k<=4:=by omega
  have d2:(k == 5)=false:=by rw[beq_eq_false_iff_ne];omega
  have Yw:10<=k:=by omega
  have d3'':¬k<=16:=by omega
  have d4':6<=k:=by omega
  have d4'':¬k<=9:=by omega
  clear h;go_enter Tryz.func174,Tryz.ntmps174;go_wp2_with fail;go_ret;exact⟨by rw[H.o];rfl,rfl⟩
theorem N9(w:World)(x:Nd)(hl:x.text.length<=1073741824)(hm:BT w):Calls Tryz.prog 175 #[ndV x] w fun e w'=>e= .returned (.bool (AA x))/\Ext w w':=by
 obtain⟨k,a,b,n,t⟩:=x;simp only[ndV]at hl ⊢;have HP:=J (fun W h=>Jn W t h);have HM:=J hm;have HW:=J (fun W=>IX W t hl);have bU:=J (fun W=>Fc W t);have sY:CQ t=(CO t && !AY t):=by rw[Ca];rfl
 obtain⟨s,hs⟩:∃s:ByteArray,s=⟨t.toArray⟩:=⟨_,rfl⟩;have af:str t= .string s:=by rw[hs];rfl
 have hne:s.toList.isEmpty=(t == []):=by rw[hs];exact IE t
 rw[af]at HP HW bU ⊢;clear hs af hm;have hb0:=Blk.new w 95 #[.int .i64 k,.int .i64 a,.int .i64 b,.int .i64 n,.string s];have eo:=J ((Ext.refl w).alloc (.cells #[.int .i64 k,.int .i64 a,.int .i64 b,.int .i64 n,.string s] 95));have fN:=J hb0;have q0:=hb0.five;clear hb0;have key:(k=1)\/(k=2)\/(k=10)\/(k≠1/\k≠2/\k≠10):=by omega
 rcases key with rfl|rfl|rfl|⟨eS,hk2,dq⟩
 ·have oT:((Bz t:Int) == 0)=(Bz t == 0):=by rw[qbi];simp
  have H:Hid (AA ⟨1,a,b,n,t⟩=((Bz t:Int) == 0 && (n == 0))):=J (by rw[oT];unfold AA Cr Cb;simp);clear hne oT sY;generalize AA ⟨1,a,b,n,t⟩=r at *;generalize hce:(Bz t:Int)=ce at *;go_enter Tryz.func175,Tryz.ntmps175;go_wp2_with fail;refine(HP.o _ (HM.o.ext eo.o)).mono ?_
  rintro e w5 ⟨v5,rfl,bA,hx5⟩;obtain⟨b5,n5,A5,c5,n6,A6,c6,rfl⟩:=bA.shape;have bz:=hx5.alloc (.cells #[.bool b5,.slice A5 n5 c5,.slice A6 n6 c6] 26);have aZ:=J (eo.o.trans bz);have q0:=(fN.o.ext bz).five;clear bA hx5 bz;rw[hce];clear hce;cases hz:(ce == 0)
  ·rw[hz]at H;go_wp2_with fail;go_ret;exact⟨by rw[H.o];rfl,aZ.o⟩
  ·rw[hz]at H;go_wp2_with fail;go_ret;exact⟨by rw[H.o];rfl,aZ.o⟩
 ·have H:Hid (AA ⟨2,a,b,n,t⟩=((CO t && !AY t) && (n == 0))):=J (by rw[<-sY];unfold AA Cr Cb;simp);generalize AA ⟨2,a,b,n,t⟩=r at *;clear hne sY;cases hw:CO t
  ·rw[hw]at HW H;clear hw;go_enter Tryz.func175,Tryz.ntmps175;go_wp2_with fail;refine(HW.o _).mono ?_
   rintro e w5 ⟨rfl,rfl⟩;go_wp2_with fail;go_ret;exact⟨by rw[H.o];rfl,eo.o⟩
  ·rw[hw]at HW H;clear hw;cases hv:AY t
   all_goals
    rw[hv]at bU H;clear hv;go_enter Tryz.func175,Tryz.ntmps175;go_wp2_with fail;refine(HW.o _).mono ?_
    rintro e w5 ⟨rfl,rfl⟩;go_wp2_with fail;refine(bU.o _).mono ?_
    rintro e w6 ⟨rfl,rfl⟩;go_wp2_with fail;go_ret;exact⟨by rw[H.o];rfl,eo.o⟩
 ·have H:Hid (AA ⟨10,a,b,n,t⟩=((decide (-64<=n) && decide (n<=64)) && s.toList.isEmpty)):=J (by rw[hne,<-KK];unfold AA Cr Cb;rw[Bool.and_comm];rfl);generalize AA ⟨10,a,b,n,t⟩=r at *;clear hne sY HP HW bU hl;by_cases hn: -64<=n
  ·have hd:decide (-64<=n)=true:=decide_eq_true hn;rw[hd]at H;by_cases hn2:n<=64
   ·have bE:decide (n<=64)=true:=decide_eq_true hn2;rw[bE]at H;go_enter Tryz.func175,Tryz.ntmps175;go_wp2_with fail;go_ret;exact⟨by rw[H.o];rfl,eo.o⟩
   ·have bE:decide (n<=64)=false:=decide_eq_false hn2;rw[bE]at H;go_enter Tryz.func175,Tryz.ntmps175;go_wp2_with fail;go_ret;exact⟨by rw[H.o];rfl,eo.o⟩
  ·have hd:decide (-64<=n)=false:=decide_eq_false hn;rw[hd]at H;go_enter Tryz.func175,Tryz.ntmps175;go_wp2_with fail;go_ret;exact⟨by rw[H.o];rfl,eo.o⟩
 ·have e1:(k == 1)=false:=by rw[beq_eq_false_iff_ne];omega
  have e2:(k == 2)=false:=by rw[beq_eq_false_iff_ne];omega
  have e3:(k == 10)=false:=by rw[beq_eq_false_iff_ne];omega
  have H:Hid (AA ⟨k,a,b,n,t⟩=((n == 0) && s.toList.isEmpty)):=J (by rw[hne,Bool.and_comm];unfold AA Cr Cb;rw[if_neg eS,if_neg hk2,if_neg dq]);generalize AA ⟨k,a,b,n,t⟩=r at *;clear hne sY HP HW bU hl eS hk2 dq;cases hz:(n == 0)
  ·rw[hz]at H;go_enter Tryz.func175,Tryz.ntmps175;go_wp2_with fail;go_ret;exact⟨by rw[H.o];rfl,eo.o⟩
  ·rw[hz]at H;go_enter Tryz.func175,Tryz.ntmps175;go_wp2_with fail;go_ret;exact⟨by rw[H.o];rfl,eo.o⟩
def prC(L:List (Nat × Nat)):List Value:=L.flatMap (fun p=>[din p.1,din p.2])
theorem Tp(L:List (Nat × Nat)):(prC L).length=L.length*2:=by
 induction L with
 |nil=>rfl
 |cons p L ih=>
  unfold prC at *;rw[qbM,qab,ih,qat];simp;omega
theorem CE(L M:List (Nat × Nat)):prC (L++M)=prC L++prC M:=by simp[prC]
theorem EA(p:Nat × Nat):prC [p]=[din p.1,din p.2]:=by simp[prC]
theorem GV(L:List (Nat × Nat))(n:Nat):(prC L).take (n*2)=prC (L.take n):=by
 induction L generalizing n with
 |nil=>simp[prC]
 |cons p L ih=>
  cases n with
  |zero=>simp[prC]
  |succ n=>
   unfold prC at *;rw[qbM,qbR,qbM,show (n+1)*2=n*2+2 by omega];show din p.1::din p.2::List.take (n*2) (List.flatMap (fun p=>[din p.1,din p.2]) L)=din p.1::din p.2::List.flatMap (fun p=>[din p.1,din p.2]) (List.take n L);rw[ih n]
theorem Tq(L:List (Nat × Nat))(i:Nat)(hi:i<L.length):(prC L)[i*2]? =some (din (L.getD i (0,0)).1)/\(prC L)[i*2+1]? =some (din (L.getD i (0,0)).2):=by
 induction L generalizing i with
 |nil=>simp at hi
 |cons p L ih=>
  unfold prC at *;rw[qbM];cases i with
  |zero=>exact⟨rfl,rfl⟩
  |succ i=>
   have h:=ih i (by simpa using hi);rw[qao (by simp;omega),qao (by simp;omega)];have e1:(i+1)*2-[din p.1,din p.2].length=i*2:=by simp;omega
   have e2:(i+1)*2+1-[din p.1,din p.2].length=i*2+1:=by simp;omega
   rw[e1,e2];exact h
def CV(B:Nat)(w:World)(v:Value)(n:Nat)(L:List (Nat × Nat)):Prop:=w.ownsRow B 196 2 v n (prC L)
theorem QM:(Tryz.prog.info? 196).map (fun i=>(i.zero,i.size,i.bytes))=some (some (.agg #[.int .i64 0,.int .i64 0]),2,16):=by kernel_rfl
theorem CV.len{B n:Nat}{w:World}{v:Value}{L:List (Nat × Nat)}(h:CV B w v n L):L.length=n:=by
 have:=h.1;rw[Tp]at this;omega
theorem CV.ext{B n:Nat}{w w':World}{v:Value}{L:List (Nat × Nat)}(h:CV B w v n L)(hx:Ext w w'):CV B w' v n L:=Ac h (fun _ _ hg=>Below.block hx _ hg)
theorem CV.get{B n g c:Nat}{w:World}{L:List (Nat × Nat)}(h:CV B w (.slice (some ⟨g,0,none⟩) n c) n L)(j:Nat)(hj:j<n):w.cell? ⟨g,j*2,none⟩=some (.int .i64 ((L.getD j (0,0)).1:Int))/\w.cell? ⟨g,j*2+1,none⟩=some (.int .i64 ((L.getD j (0,0)).2:Int)):=by
 have hl:=h.len;have h1:=h.cellAt (j*2) (by omega);have h2:=h.cellAt (j*2+1) (by omega);have h3:=Tq L j (by omega);rw[h1,h2];exact h3
theorem AV{B sz n:Nat}{e:TypeId}{w:World}{v:Value}{xs:List Value}(h:w.ownsRow B e sz v n xs)(g:Nat)(hg:v.ownBlock=some g):B<=g/\g<w.heap.size:=by
 rcases h.2 with ⟨rfl,h2⟩|⟨g',cap,cur,rfl,hb,hh,_⟩
 ·cases hg
 ·simp only[Value.ownBlock,qaw]at hg;subst hg;refine⟨hb,?_⟩;rcases qam g' w.heap.size with h|h
  ·exact h
  ·rw[qba h]at hh;cases hh
theorem Dm{B sz n m:Nat}{e:TypeId}{w:World}{A:Option Addr}{c:Nat}{xs:List Value}(h:w.ownsRow B e sz (.slice A n c) n xs)(hm:m<=n):w.ownsRow B e sz (.slice A m c) m (xs.take (m*sz)):=by
 have rB:m*sz<=n*sz:=qbf sz hm;refine⟨by rw[qas,h.1];omega,?_⟩;rcases h.2 with ⟨h1,h2⟩|⟨g,cap,cur,h1,hb,hh,hc,gY,hs,ht⟩
 ·injection h1 with h1 h3 h4
  subst h1;subst h2;obtain rfl:m=0:=by omega
  exact .inl ⟨by rw[h4],rfl⟩
 ·injection h1 with h1 h3 h4
  subst h1;subst h4;exact .inr ⟨g,c,cur,rfl,hb,hh,by omega,gY,hs,by rw[<-ht,List.take_take,qaV rB]⟩
theorem Ey {B Zb Xj n m g:Nat} {e1 e2:TypeId} {W W1 w':World} {v u u':Value} {xs ys:List Value} (h4:W.ownsRow B e1 Zb v n xs) (h5:W.ownsRow B e2 Xj u m ys) (jV:EG v u) (hx:Ext W W1) (hB:B<=W.heap.size)
  (hgr:W1.grownBy w' v.ownBlock) (hat:v.ownBlock=some g\/g=W1.heap.size) (hu:u'.ownBlock=some g):w'.ownsRow B e2 Xj u m ys/\EG u' u/\Below B W w':=by
 refine⟨?_,fun k hk he=> ?_,?_⟩
 ·refine(Ac h5 (fun _ _ hg=>Below.block hx _ hg)).kept hgr ?_
  cases hu5:u.ownBlock with
  |none=>exact .inl rfl
  |some k=>exact .inr (fun he=>jV k he.symm hu5)
 ·rw[hu]at hk;injection hk with hk
  subst hk;rcases hat with hat|hat
  ·exact jV g hat he
  ·have:=(AV h5 g he).2;have:=hx.size;omega
 ·exact Below.grown (Below.mono hx hB) hgr (qaf hB hx.size) (fun k hk=>(AV h4 k hk).1)
def Ld(l:List Nd)(w:World)(e:Ending)(w':World):Prop:=
 ∃v,e= .returned (.tuple #[v,.int .i64 ((DG l).2:Int)])/\Ext w w'/\CV w.heap.size w' v (DG l).1.length (DG l).1
structure J5 (l:List Nd) (w:World) (i:Nat) (all st:List (Nat × Nat)) (va vs:Value) (wr:World):Prop where
 go:DG l=GB i all st (l.drop i)
 ra:CV w.heap.size wr va i all
 rs:CV w.heap.size wr vs st.length st
 apart:EG va vs
 ext:Ext w wr
 low:∀p∈st,p.1<=i/\p.2<=i
 fs:st.length<=i
theorem J5.bad{l:List Nd}{w wr:World}{i:Nat}{all st:List (Nat × Nat)}{va vs:Value}{nd:Nd}(h:J5 l w i all st va vs wr)(hn:l[i]? =some nd)(hs:AM i st nd=none):DG l=(all,0):=by
 have h1:=h.go;rw[DZ hn,GB,hs]at h1;exact h1
theorem J5.next {l:List Nd} {w wr w':World} {i k:Nat} {all st:List (Nat × Nat)} {va vs z5 vp:Value} {nd:Nd} {p:Nat × Nat} (h:J5 l w i all st va vs wr) (hn:l[i]? =some nd) (hs:AM i st nd=some (p,st.take k++[p]))
  (h4:CV w.heap.size w' z5 (i+1) (all++[p])) (h5:CV w.heap.size w' vp (k+1) (st.take k++[p])) (hk:k<=st.length) (jV:EG z5 vp) (hx:Ext w w') (hp:p.1<=i+1/\p.2<=i+1):J5 l w (i+1) (all++[p]) (st.take k++[p]) z5 vp w':=by
 have h1:=h.go;rw[DZ hn,GB,hs]at h1;have hl:(st.take k++[p]).length=k+1:=by rw[qab,qas,qae];omega
 refine⟨h1,h4,by rw[hl];exact h5,jV,hx,fun q hq=> ?_,by have:=h.fs;rw[hl];omega⟩;rcases qax.1 hq with hq|hq
 ·have:=h.low q (List.mem_of_mem_take hq);omega
 ·rw[qav]at hq;rw[hq];exact hp
section
variable {st:List (Nat × Nat)} {i:Nat} {k a b n:Int} {t:List UInt8}
theorem N8(h:Al k<0):AM i st ⟨k,a,b,n,t⟩=none:=by unfold AM;rw[if_pos (.inl h)]
theorem Jg(h:(st.length:Int)<Al k):AM i st ⟨k,a,b,n,t⟩=none:=by unfold AM;rw[if_pos (.inr (.inl h))]
theorem Iq(h:Al k=0)(h2:¬(a=0/\b=0)):AM i st ⟨k,a,b,n,t⟩=none:=by
 unfold AM;simp only[h];split
 ·rfl
 ·simp[h2]
theorem Ip(h:Al k=1)(h2:¬(a=(i:Int)-1/\b=0)):AM i st ⟨k,a,b,n,t⟩=none:=by
 unfold AM;simp only[h];split
 ·rfl
 ·simp[h2]
theorem Io(h:Al k=2)(h2:¬(a=((st.getD (st.length-1) (0,0)).1:Int)-1/\b=(i:Int)-1)):AM i st ⟨k,a,b,n,t⟩=none:=by
 unfold AM;simp only[h];split
 ·rfl
 ·first|(simp[h2];done)|(simp;exact fun h3 h4=>absurd ⟨h3,h4⟩ h2)
theorem R5(h:Al k=0)(hp:AA ⟨k,0,0,n,t⟩=true):AM i st ⟨k,0,0,n,t⟩=some ((i,1),st.take (st.length-0)++[(i,1)]):=by
 unfold AM;simp only[h,hp];rw[if_neg (by first|(simp;done)|(simp;omega))];simp
theorem R4(h:Al k=1)(hp:AA ⟨k,(i:Int)-1,0,n,t⟩=true)(hm:1<=st.length):AM i st ⟨k,(i:Int)-1,0,n,t⟩=some (((st.getD (st.length-1) (0,0)).1,(st.getD (st.length-1) (0,0)).2+1),st.take (st.length-1)++[((st.getD (st.length-1) (0,0)).1,(st.getD (st.length-1) (0,0)).2+1)]):=by
 unfold AM;simp only[h,hp];rw[if_neg (by first|(simp;done)|(simp;omega)),if_neg (by decide),if_pos trivial,if_pos (by simp)]
theorem R3(h:Al k=2)(hp:AA ⟨k,((st.getD (st.length-1) (0,0)).1:Int)-1,(i:Int)-1,n,t⟩=true)(hm:2<=st.length):AM i st ⟨k,((st.getD (st.length-1) (0,0)).1:Int)-1,(i:Int)-1,n,t⟩=some (((st.getD (st.length-2) (0,0)).1,max ((st.getD (st.length-1) (0,0)).2+1) ((st.getD (st.length-2) (0,0)).2+1)),st.take (st.length-2)++[((st.getD (st.length-2) (0,0)).1,max ((st.getD (st.length-1) (0,0)).2+1) ((st.getD (st.length-2) (0,0)).2+1))]):=by
 unfold AM;simp only[h,hp];rw[if_neg (by first|(simp;done)|(simp;omega)),if_neg (by decide),if_neg (by decide),if_pos (by simp)]
theorem Fd(h:AA ⟨k,a,b,n,t⟩=false):AM i st ⟨k,a,b,n,t⟩=none:=by unfold AM;rw[if_pos (.inr (.inr h))]
end
theorem Qi(w:World)(v:Value)(l:List Nd)(hr:RNd w v l)(hl:l.length<=1000000)(dy:∀x∈l,x.text.length<=1073741824)(hm:BT w):Calls Tryz.prog 132 #[v] w (Ld l w):=by
 have HR:=J hr;have fb:=J dy;have jI:=J hm;obtain⟨i0,hi,aR,hz1,aU⟩:=info_parts QM;obtain⟨A,c,rfl,_⟩:=hr;clear dy hm;have aP:Hid (J5 l w 0 [] [] (.slice none 0 0) (.slice none 0 0) w):=J ⟨rfl,⟨rfl,.inl ⟨rfl,rfl⟩⟩,⟨rfl,.inl ⟨rfl,rfl⟩⟩,(fun g h=>by cases h),Ext.refl w,(fun p h=>by cases h),qal _⟩;obtain⟨n,hn⟩:∃n,n=l.length:=⟨_,rfl⟩;have HN:=J hn;rw[<-hn]at hl ⊢;clear hn;go_enter Tryz.func132,Tryz.ntmps132;go_wp2_with fail;go_loopw [4,5,15] (fun s4 s5 s15 wr=>∃(i:Nat) (all st:List (Nat × Nat)),i<=n/\s15= .int .i64 (i:Int)/\J5 l w i all st s4 s5 wr) (fun _ _ s15 _=>n-(intOf s15).toNat)
 case atStart=>exact⟨0,[],[],qal _,rfl,aP.o⟩
 case round=>
  obtain⟨i,all,st,hin,rfl,aL⟩:=hrel;have HI:=J aL;obtain⟨A4,c4,rfl⟩:=Ao aL.ra;obtain⟨A5,c5,rfl⟩:=Ao aL.rs;clear aP;have Vw:=aL.fs;obtain⟨ms,rB⟩:∃ms,ms=st.length:=⟨_,rfl⟩;rw[<-rB]at Vw ⊢;have la:=J rB;clear rB;by_cases hlt:i<n
  ·have hil:i<l.length:=by rw[<-HN.o];exact hlt
   obtain⟨A',c',he,hc⟩:=HR.o.ext aL.ext;obtain⟨b,o,Wa,hb,hc⟩:=hc (by omega);obtain⟨nd,hnd,hat,gT⟩:∃nd,l[i]? =some nd/\Hj wr b (o+i*5) nd/\nd.text.length<=1073741824:=⟨l[i],qaa hil,hc i hil,fb.o _ (qap hil)⟩
   injection he with he1 he2 he3
   subst he1;clear he2 he3;subst Wa;have ao:Hid (AM i st nd=none->DG l=(all,0)):=J (fun h=>aL.bad hnd h);have aW:=J hnd;clear hnd hc;have hw:wr.heap.size>=w.heap.size:=aL.ext.size;have HX:=J aL.ext;have lI:=J (jI.o.ext aL.ext);clear aL hil;obtain⟨kd,na,nb,nn,nt⟩:=nd;have bI:=J (fun W h=>N9 W ⟨kd,na,nb,nn,nt⟩ gT h);simp only[ndV]at bI;obtain⟨k0,k1,k2,k3,k4⟩:=hat;simp only at k0 k1 k2 k3 k4;obtain⟨s,hs⟩:∃s:ByteArray,s=⟨nt.toArray⟩:=⟨_,rfl⟩;have af:str nt= .string s:=by rw[hs];rfl
   rw[af]at bI k4;clear hs af gT;have az:=J (fun W=>Kh W kd);have key:=FO kd;obtain⟨p,hp⟩:∃p,p=AA ⟨kd,na,nb,nn,nt⟩:=⟨_,rfl⟩;rw[<-hp]at bI;have hb0:=Blk.new wr 95 #[.int .i64 kd,.int .i64 na,.int .i64 nb,.int .i64 nn,.string s];have aM:=J ((Ext.refl wr).alloc (.cells #[.int .i64 kd,.int .i64 na,.int .i64 nb,.int .i64 nn,.string s] 95));have cO:=J hb0;have q0:=hb0.five;clear hb0;have bp:=J HI.o.ra;have bU:Hid (CV w.heap.size wr (.slice A5 ms c5) ms st):=J (by
    have h:=HI.o.rs;rw[<-la.o]at h;exact h)
   have jl:=J HI.o.ra.len;have gP:Hid (∀j,j<ms->(st.getD j (0,0)).1<=i/\(st.getD j (0,0)).2<=i):=J (fun j hj=>HI.o.low _ (by
    have nA:j<st.length:=by rw[<-la.o];exact hj
    rw[qac,qaa nA];exact qap nA))
   rcases key with ay|ay|ay|ay
   ·have aQ:=J (ao.o (N8 (by rw[ay];decide)));rw[ay]at az;clear ay hp ao;go_wp2_with fail;refine(az.o _).mono ?_
    rintro e w2 ⟨rfl,rfl⟩;go_wp2_with fail;go_ret2;exact⟨_,by rw[aQ.o];rfl,HX.o.trans aM.o,by rw[aQ.o,jl.o];exact bp.o.ext aM.o⟩
   ·cases hpb:p
    ·rw[hpb]at hp bI;have aQ:=J (ao.o (Fd hp.symm));rw[ay]at az;clear ay hp ao hpb;go_wp2_with fail;refine(az.o _).mono ?_
     rintro e w2 ⟨rfl,rfl⟩;go_wp2_with fail;refine(bI.o _ (lI.o.ext aM.o)).mono ?_
     rintro e w3 ⟨rfl,ae⟩;have q0:=(cO.o.ext ae).five;have lh:=(cO.o.ext ae).lt;have io:wr.heap.size<w3.heap.size+1:=by omega
     have im:wr.heap.size<w3.heap.size+1+1:=by omega
     have il:wr.heap.size<w3.heap.size+1+1+1:=by omega
     have ag:=J (aM.o.trans ae);clear ae;go_wp2_with fail;go_ret2;exact⟨_,by rw[aQ.o];rfl,HX.o.trans ag.o,by rw[aQ.o,jl.o];exact bp.o.ext ag.o⟩
    ·rw[hpb]at hp bI;have yo:=J hp.symm;clear hpb hp;by_cases ha:na=0
     ·subst ha;by_cases hb2:nb=0
      ·subst hb2;have fD:Hid (AM i st ⟨kd,0,0,nn,nt⟩=some ((i,1),st.take (ms-0)++[(i,1)])):=J (by rw[la.o];exact R5 ay yo.o);have cP:Hid (i<=i+1/\1<=i+1):=J ⟨by omega,by omega⟩;rw[ay]at az;clear ay ao;go_wp2_with fail;refine(az.o _).mono ?_
       rintro e w2 ⟨rfl,rfl⟩;go_wp2_with fail;refine(bI.o _ (lI.o.ext aM.o)).mono ?_
       rintro e w3 ⟨rfl,ae⟩;have q0:=(cO.o.ext ae).five;have lh:=(cO.o.ext ae).lt;have io:wr.heap.size<w3.heap.size+1:=by omega
       have im:wr.heap.size<w3.heap.size+1+1:=by omega
       have il:wr.heap.size<w3.heap.size+1+1+1:=by omega
       have ag:=J (aM.o.trans ae);clear ae;go_upto_region 20 with fail;rcases bU.o.2 with ⟨he,h0⟩|⟨g5,xP,xN,he,_,_,u6,_⟩
       ·injection he with he1 he2 he3
        have H0:=J (And.intro he2 he3);subst he1;clear he2 he3 h0;obtain⟨w4,hw4⟩:∃w4,w4=(w3.alloc (.cells #[.int .i64 (i:Int),.int .i64 1] 196)).alloc (.cells #[.int .i64 kd,.int .i64 0,.int .i64 0,.int .i64 nn,.string s] 95):=⟨_,rfl⟩;rw[<-hw4];have ik:Ext w3 w4:=by rw[hw4];exact(((Ext.refl w3).alloc _).alloc _)
        have jy:Blk w4 w3.heap.size 196 #[.int .i64 (i:Int),.int .i64 1]:=by rw[hw4];exact((Blk.new w3 _ _).alloc _)
        have aD:=J (ag.o.trans ik);have uJ:=J jy;obtain⟨p0,p1⟩:=jy.two';obtain⟨mk,dF⟩:∃mk,mk=ms-0:=⟨_,rfl⟩;have jn:IntKind.i64.wrap (ms:Int)=(mk:Int):=by rw[IntWalk.i64_in _ (by omega)];omega
        have Z0:mk<=c5:=by have:=H0.o;omega
        have bC:w.heap.size<=w4.heap.size:=qaf HX.o.size aD.o.size;have ep:=J (Dm (m:=mk) (bU.o.ext aD.o) (by omega));have nr:=J (bp.o.ext aD.o);have lr:=jy.lt;have tB:wr.heap.size<=w3.heap.size:=ag.o.size;have lJ:Hid (mk<=st.length):=J (by rw[<-la.o];omega);have jC:Hid (AM i st ⟨kd,0,0,nn,nt⟩=some ((i,1),st.take mk++[(i,1)])):=J (by rw[dF];exact fD.o);have dt:Hid ((w4.alloc (.cells #[.int .i64 (i:Int),.int .i64 1] 196)).drew.ownsRow w.heap.size 196 2 (.slice none mk c5) mk ((prC st).take (mk*2))):=J (Ac ep.o (fun k _ hk=>Below.heap_alloc w4 _ k hk));have a9:Hid (∀(j:Nat) (u:Value),[Value.int .i64 (i:Int),Value.int .i64 1][j]? =some u->(w4.alloc (.cells #[.int .i64 (i:Int),.int .i64 1] 196)).drew.cell? ((⟨w4.heap.size,0,none⟩:Addr).add j)=some u):=J (AS w4 196 [.int .i64 (i:Int),.int .i64 1]);have aA:Hid (mk+1<=maxLen):=J (by unfold maxLen;omega);have aF:Hid ((mk+1)*16<=140737488355328):=J (by omega);have aC:Hid (w.heap.size<=(w4.alloc (.cells #[.int .i64 (i:Int),.int .i64 1] 196)).drew.heap.size):=J (by simp;omega);clear hw4 jy ik dF q0
        go_region_law (refine step_append_lies _ rfl (.tmp 96) (.tmp 98) 192 rfl w.heap.size 196 i0 _ 2 16 Tryz.underlying192 hi aR hz1 aU rfl (by decide) _ mk ((prC st).take (mk*2)) rfl dt.o ⟨w4.heap.size,0,none⟩ 1 1 [.int .i64 (i:Int),.int .i64 1] rfl rfl a9.o (by simp[Value.oneCell']) (by decide) aA.o aF.o aC.o _ rfl ?_;intro g6 c6 w6 aq aw aG bu;have cj:=J aq;have iP:=J aw;have lR:=J aG;clear aq aw aG)
        all_goals
         have ah:Hid (Ext w4 (w4.alloc (.cells #[.int .i64 (i:Int),.int .i64 1] 196)).drew):=J ((Ext.refl w4).alloc _).drew;have cS:=J (Ey (u':= .slice (some ⟨g6,0,none⟩) (mk+1) c6) ep.o nr.o (fun g h1 h2=>HI.o.apart g h2 h1) ah.o bC iP.o lR.o rfl);have iI:Blk w6 w3.heap.size 196 #[.int .i64 (i:Int),.int .i64 1]:=(iP.o.block w3.heap.size (qaj lr ah.o.size) (by intro he;cases he)).trans (uJ.o.ext ah.o);obtain⟨y0,y1⟩:=iI.two';have dY:Hid (CV w.heap.size w6 (.slice (some ⟨g6,0,none⟩) (mk+1) c6) (mk+1) (st.take mk++[(i,1)])):=J (by unfold CV;rw[CE,EA,<-GV];exact cj.o);have lC:Hid ((w6.alloc (.cells #[.int .i64 (i:Int),.int .i64 1] 196)).ownsRow w.heap.size 196 2 (.slice A4 i c4) i (prC all)):=J (Ac cS.o.1 (fun k _ hk=>Below.heap_alloc w6 _ k hk));have fY:=J (AS w6 196 [.int .i64 (i:Int),.int .i64 1]);have eK:Hid (i+1<=maxLen):=J (by unfold maxLen;omega);have cm:Hid ((i+1)*16<=140737488355328):=J (by omega);have ll:w.heap.size<=w6.heap.size:=qaf bC cS.o.2.2.size;have bK:Hid (w.heap.size<=(w6.alloc (.cells #[.int .i64 (i:Int),.int .i64 1] 196)).heap.size):=J (by simp;omega);clear iI p0 p1;go_wp2_with (at_builtin;go_must (refine wpList_append_lies _ rfl _ _ 192 rfl w.heap.size 196 i0 _ 2 16 Tryz.underlying192 hi aR hz1 aU rfl (by decide) (.slice A4 i c4) i (prC all) rfl lC.o ⟨w6.heap.size,0,none⟩ 1 1 [.int .i64 (i:Int),.int .i64 1] rfl rfl fY.o (by simp[Value.oneCell']) (by decide) eK.o cm.o bK.o _ rfl ?_;intro g7 c7 w7 aK cF dH mL;have dB:=J (Ey (u':= .slice (some ⟨g7,0,none⟩) (i+1) c7) cS.o.1 dY.o (fun g h1 h2=>cS.o.2.1 g h2 h1) ((Ext.refl w6).alloc _) ll cF dH rfl);have uN:Hid (CV w.heap.size w7 (.slice (some ⟨g7,0,none⟩) (i+1) c7) (i+1) (all++[(i,1)])):=J (by unfold CV;rw[CE,EA];exact aK);clear aK cF dH));go_wp2_with fail;go_roundw
         case rel=>exact⟨i+1,_,_,by omega,by go_num,HI.o.next aW.o jC.o uN.o dB.o.1 lJ.o dB.o.2.1 ((HX.o.trans aD.o).more (cS.o.2.2.trans dB.o.2.2)) (by have:=cP.o;exact this)⟩
         case measure=>simp[intOf];omega
       ·injection he with he1 he2 he3
        subst he1;subst he3;clear he2;obtain⟨w4,hw4⟩:∃w4,w4=(w3.alloc (.cells #[.int .i64 (i:Int),.int .i64 1] 196)).alloc (.cells #[.int .i64 kd,.int .i64 0,.int .i64 0,.int .i64 nn,.string s] 95):=⟨_,rfl⟩;rw[<-hw4];have ik:Ext w3 w4:=by rw[hw4];exact(((Ext.refl w3).alloc _).alloc _)
        have jy:Blk w4 w3.heap.size 196 #[.int .i64 (i:Int),.int .i64 1]:=by rw[hw4];exact((Blk.new w3 _ _).alloc _)
        have aD:=J (ag.o.trans ik);have uJ:=J jy;obtain⟨p0,p1⟩:=jy.two';obtain⟨mk,dF⟩:∃mk,mk=ms-0:=⟨_,rfl⟩;have jn:IntKind.i64.wrap (ms:Int)=(mk:Int):=by rw[IntWalk.i64_in _ (by omega)];omega
        have Z0:mk<=c5:=by omega
        have bC:w.heap.size<=w4.heap.size:=qaf HX.o.size aD.o.size;have ep:=J (Dm (m:=mk) (bU.o.ext aD.o) (by omega));have nr:=J (bp.o.ext aD.o);have lr:=jy.lt;have tB:wr.heap.size<=w3.heap.size:=ag.o.size;have lJ:Hid (mk<=st.length):=J (by rw[<-la.o];omega);have jC:Hid (AM i st ⟨kd,0,0,nn,nt⟩=some ((i,1),st.take mk++[(i,1)])):=J (by rw[dF];exact fD.o);have dt:Hid ((w4.alloc (.cells #[.int .i64 (i:Int),.int .i64 1] 196)).drew.ownsRow w.heap.size 196 2 (.slice (some ⟨g5,0,none⟩) mk c5) mk ((prC st).take (mk*2))):=J (Ac ep.o (fun k _ hk=>Below.heap_alloc w4 _ k hk));have a9:Hid (∀(j:Nat) (u:Value),[Value.int .i64 (i:Int),Value.int .i64 1][j]? =some u->(w4.alloc (.cells #[.int .i64 (i:Int),.int .i64 1] 196)).drew.cell? ((⟨w4.heap.size,0,none⟩:Addr).add j)=some u):=J (AS w4 196 [.int .i64 (i:Int),.int .i64 1]);have aA:Hid (mk+1<=maxLen):=J (by unfold maxLen;omega);have aF:Hid ((mk+1)*16<=140737488355328):=J (by omega);have aC:Hid (w.heap.size<=(w4.alloc (.cells #[.int .i64 (i:Int),.int .i64 1] 196)).drew.heap.size):=J (by simp;omega);clear hw4 jy ik dF q0
        go_region_law (refine step_append_lies _ rfl (.tmp 96) (.tmp 98) 192 rfl w.heap.size 196 i0 _ 2 16 Tryz.underlying192 hi aR hz1 aU rfl (by decide) _ mk ((prC st).take (mk*2)) rfl dt.o ⟨w4.heap.size,0,none⟩ 1 1 [.int .i64 (i:Int),.int .i64 1] rfl rfl a9.o (by simp[Value.oneCell']) (by decide) aA.o aF.o aC.o _ rfl ?_;intro g6 c6 w6 aq aw aG bu;have cj:=J aq;have iP:=J aw;have lR:=J aG;clear aq aw aG)
        all_goals
         have ah:Hid (Ext w4 (w4.alloc (.cells #[.int .i64 (i:Int),.int .i64 1] 196)).drew):=J ((Ext.refl w4).alloc _).drew;have cS:=J (Ey (u':= .slice (some ⟨g6,0,none⟩) (mk+1) c6) ep.o nr.o (fun g h1 h2=>HI.o.apart g h2 h1) ah.o bC iP.o lR.o rfl);have iI:Blk w6 w3.heap.size 196 #[.int .i64 (i:Int),.int .i64 1]:=(iP.o.block w3.heap.size (qaj lr ah.o.size) (by intro he;have he2:w3.heap.size=g5:=qaA he;have:=(AV bU.o g5 rfl).2;omega)).trans (uJ.o.ext ah.o);obtain⟨y0,y1⟩:=iI.two';have dY:Hid (CV w.heap.size w6 (.slice (some ⟨g6,0,none⟩) (mk+1) c6) (mk+1) (st.take mk++[(i,1)])):=J (by unfold CV;rw[CE,EA,<-GV];exact cj.o);have lC:Hid ((w6.alloc (.cells #[.int .i64 (i:Int),.int .i64 1] 196)).ownsRow w.heap.size 196 2 (.slice A4 i c4) i (prC all)):=J (Ac cS.o.1 (fun k _ hk=>Below.heap_alloc w6 _ k hk));have fY:=J (AS w6 196 [.int .i64 (i:Int),.int .i64 1]);have eK:Hid (i+1<=maxLen):=J (by unfold maxLen;omega);have cm:Hid ((i+1)*16<=140737488355328):=J (by omega);have ll:w.heap.size<=w6.heap.size:=qaf bC cS.o.2.2.size;have bK:Hid (w.heap.size<=(w6.alloc (.cells #[.int .i64 (i:Int),.int .i64 1] 196)).heap.size):=J (by simp;omega);clear iI p0 p1;go_wp2_with (at_builtin;go_must (refine wpList_append_lies _ rfl _ _ 192 rfl w.heap.size 196 i0 _ 2 16 Tryz.underlying192 hi aR hz1 aU rfl (by decide) (.slice A4 i c4) i (prC all) rfl lC.o ⟨w6.heap.size,0,none⟩ 1 1 [.int .i64 (i:Int),.int .i64 1] rfl rfl fY.o (by simp[Value.oneCell']) (by decide) eK.o cm.o bK.o _ rfl ?_;intro g7 c7 w7 aK cF dH mL;have dB:=J (Ey (u':= .slice (some ⟨g7,0,none⟩) (i+1) c7) cS.o.1 dY.o (fun g h1 h2=>cS.o.2.1 g h2 h1) ((Ext.refl w6).alloc _) ll cF dH rfl);have uN:Hid (CV w.heap.size w7 (.slice (some ⟨g7,0,none⟩) (i+1) c7) (i+1) (all++[(i,1)])):=J (by unfold CV;rw[CE,EA];exact aK);clear aK cF dH));go_wp2_with fail;go_roundw
         case rel=>exact⟨i+1,_,_,by omega,by go_num,HI.o.next aW.o jC.o uN.o dB.o.1 lJ.o dB.o.2.1 ((HX.o.trans aD.o).more (cS.o.2.2.trans dB.o.2.2)) (by have:=cP.o;exact this)⟩
         case measure=>simp[intOf];omega
      ·have aQ:=J (ao.o (Iq ay (fun h=>hb2 h.2)));rw[ay]at az;clear ay ao;go_wp2_with fail;refine(az.o _).mono ?_
       rintro e w2 ⟨rfl,rfl⟩;go_wp2_with fail;refine(bI.o _ (lI.o.ext aM.o)).mono ?_
       rintro e w3 ⟨rfl,ae⟩;have q0:=(cO.o.ext ae).five;have lh:=(cO.o.ext ae).lt;have io:wr.heap.size<w3.heap.size+1:=by omega
       have im:wr.heap.size<w3.heap.size+1+1:=by omega
       have il:wr.heap.size<w3.heap.size+1+1+1:=by omega
       have ag:=J (aM.o.trans ae);clear ae;go_wp2_with fail;go_ret2;exact⟨_,by rw[aQ.o];rfl,HX.o.trans (ag.o.trans ((((Ext.refl w3).alloc _).alloc _))),by rw[aQ.o,jl.o];exact bp.o.ext (ag.o.trans ((((Ext.refl w3).alloc _).alloc _)))⟩
     ·have aQ:=J (ao.o (Iq ay (fun h=>ha h.1)));rw[ay]at az;clear ay ao;go_wp2_with fail;refine(az.o _).mono ?_
      rintro e w2 ⟨rfl,rfl⟩;go_wp2_with fail;refine(bI.o _ (lI.o.ext aM.o)).mono ?_
      rintro e w3 ⟨rfl,ae⟩;have q0:=(cO.o.ext ae).five;have lh:=(cO.o.ext ae).lt;have io:wr.heap.size<w3.heap.size+1:=by omega
      have im:wr.heap.size<w3.heap.size+1+1:=by omega
      have il:wr.heap.size<w3.heap.size+1+1+1:=by omega
      have ag:=J (aM.o.trans ae);clear ae;go_wp2_with fail;go_ret2;exact⟨_,by rw[aQ.o];rfl,HX.o.trans (ag.o.trans ((((Ext.refl w3).alloc _).alloc _))),by rw[aQ.o,jl.o];exact bp.o.ext (ag.o.trans ((((Ext.refl w3).alloc _).alloc _)))⟩
   ·by_cases hmf:ms<1
    ·obtain rfl:ms=0:=by omega
     have aQ:=J (ao.o (Jg (by rw[ay,<-la.o];decide)));rw[ay]at az;clear ay hp ao;go_wp2_with fail;refine(az.o _).mono ?_
     rintro e w2 ⟨rfl,rfl⟩;go_wp2_with fail;go_ret2;exact⟨_,by rw[aQ.o];rfl,HX.o.trans aM.o,by rw[aQ.o,jl.o];exact bp.o.ext aM.o⟩
    ·have jP:1<=ms:=by omega
     have tf:0<ms:=by omega
     have Va:¬(ms:Int)<1:=by omega
     cases hpb:p
     ·rw[hpb]at hp bI;have aQ:=J (ao.o (Fd hp.symm));rw[ay]at az;clear ay hp ao hpb;go_wp2_with fail;refine(az.o _).mono ?_
      rintro e w2 ⟨rfl,rfl⟩;go_wp2_with fail;refine(bI.o _ (lI.o.ext aM.o)).mono ?_
      rintro e w3 ⟨rfl,ae⟩;have q0:=(cO.o.ext ae).five;have lh:=(cO.o.ext ae).lt;have io:wr.heap.size<w3.heap.size+1:=by omega
      have im:wr.heap.size<w3.heap.size+1+1:=by omega
      have il:wr.heap.size<w3.heap.size+1+1+1:=by omega
      have ag:=J (aM.o.trans ae);clear ae;go_wp2_with fail;go_ret2;exact⟨_,by rw[aQ.o];rfl,HX.o.trans ag.o,by rw[aQ.o,jl.o];exact bp.o.ext ag.o⟩
     ·rw[hpb]at hp bI;have yo:=J hp.symm;clear hpb hp;obtain⟨g5,d5,he5,tL,tl⟩:=bU.o.form (by omega);injection he5 with he5 hx5 hy5
      subst he5;clear hx5 hy5;obtain⟨z1,ij⟩:∃z1:Int,z1=(ms:Int)-1:=⟨_,rfl⟩;have qD:z1.toNat=ms-1:=by omega
      have UE:IntKind.i64.wrap ((ms:Int)-1)=z1:=by rw[IntWalk.i64_in _ (by omega),ij]
      have Uz:(0:Int)<=z1:=by omega
      have Uy:z1<(ms:Int):=by omega
      obtain⟨f1,en⟩:∃f1,f1=(st.getD (ms-1) (0,0)).1:=⟨_,rfl⟩;obtain⟨d1,ec⟩:∃d1,d1=(st.getD (ms-1) (0,0)).2:=⟨_,rfl⟩;have ti:=gP.o (ms-1) (by omega);rw[<-en,<-ec]at ti;have lQ:Hid (∀W,CV w.heap.size W (.slice (some ⟨g5,0,none⟩) ms c5) ms st->W.cell? ⟨g5,z1.toNat*2,none⟩=some (.int .i64 (f1:Int))/\W.cell? ⟨g5,z1.toNat*2+1,none⟩=some (.int .i64 (d1:Int))):=J (fun W h=>by rw[qD,en,ec];exact h.get (ms-1) (by omega));have lc:=J en;have lP:=J ec;obtain⟨zi,pP⟩:∃zi:Int,zi=(i:Int)-1:=⟨_,rfl⟩;have UD:IntKind.i64.wrap ((i:Int)-1)=zi:=by rw[IntWalk.i64_in _ (by omega),pP]
      have tX:=J pP;have sH:IntKind.i64.wrap ((d1:Int)+1)=((d1+1:Nat):Int):=by rw[IntWalk.i64_in _ (by omega)];omega
      obtain⟨e1,he1⟩:∃e1,e1=d1+1:=⟨_,rfl⟩;rw[<-he1]at sH;have lO:=J he1;have tY:=J ij;clear en ec pP he1 ij qD;by_cases ha:na=zi
      ·subst ha;by_cases hb2:nb=0
       ·subst hb2;have fD:Hid (AM i st ⟨kd,na,0,nn,nt⟩=some ((f1,e1),st.take (ms-1)++[(f1,e1)])):=J (by
         have h:=R4 (i:=i) (st:=st) (n:=nn) (t:=nt) ay (by rw[<-tX.o];exact yo.o) (by rw[<-la.o];omega);rw[<-tX.o,<-la.o,<-lc.o,<-lP.o,<-lO.o]at h;exact h)
        have cP:Hid (f1<=i+1/\e1<=i+1):=J ⟨by omega,by rw[lO.o];omega⟩;have he1b:e1<=1000002:=by rw[lO.o];omega
        rw[ay]at az;clear ay ao;go_wp2_with fail;refine(az.o _).mono ?_
        rintro e w2 ⟨rfl,rfl⟩;go_wp2_with fail;refine(bI.o _ (lI.o.ext aM.o)).mono ?_
        rintro e w3 ⟨rfl,ae⟩;have q0:=(cO.o.ext ae).five;have lh:=(cO.o.ext ae).lt;have io:wr.heap.size<w3.heap.size+1:=by omega
        have im:wr.heap.size<w3.heap.size+1+1:=by omega
        have il:wr.heap.size<w3.heap.size+1+1+1:=by omega
        have ag:=J (aM.o.trans ae);clear ae;have oG:=(AV (bU.o.ext ag.o) g5 rfl).2;have oJ:g5<w3.heap.size+1:=by omega
        have oI:g5<w3.heap.size+1+1:=by omega
        have oH:g5<w3.heap.size+1+1+1:=by omega
        obtain⟨xR,xQ⟩:=lQ.o w3 (bU.o.ext ag.o);go_upto_region 20 with fail;have u6:ms<=c5:=by
         rcases bU.o.2 with ⟨he,h0⟩|⟨g5',xP,xN,he,_,_,u6,_⟩
         ·cases he
         ·injection he with he1 he2 he3;rw[he3];exact u6
        obtain⟨w4,hw4⟩:∃w4,w4=((w3.alloc (.cells #[.int .i64 (f1:Int),.int .i64 (e1:Int)] 196)).alloc (.cells #[.int .i64 kd,.int .i64 na,.int .i64 0,.int .i64 nn,.string s] 95)).alloc (.cells #[.int .i64 (f1:Int),.int .i64 (d1:Int)] 196):=⟨_,rfl⟩;rw[<-hw4];have ik:Ext w3 w4:=by rw[hw4];exact((((Ext.refl w3).alloc _).alloc _).alloc _)
        have jy:Blk w4 w3.heap.size 196 #[.int .i64 (f1:Int),.int .i64 (e1:Int)]:=by rw[hw4];exact(((Blk.new w3 _ _).alloc _).alloc _)
        have aD:=J (ag.o.trans ik);have uJ:=J jy;obtain⟨p0,p1⟩:=jy.two';obtain⟨mk,dF⟩:∃mk,mk=ms-1:=⟨_,rfl⟩;have vA:z1<=(c5:Int):=by have:=tY.o;omega
        have nR:z1.toNat=mk:=by have:=tY.o;omega
        have bC:w.heap.size<=w4.heap.size:=qaf HX.o.size aD.o.size;have ep:=J (Dm (m:=mk) (bU.o.ext aD.o) (by omega));have nr:=J (bp.o.ext aD.o);have lr:=jy.lt;have tB:wr.heap.size<=w3.heap.size:=ag.o.size;have lJ:Hid (mk<=st.length):=J (by rw[<-la.o];omega);have jC:Hid (AM i st ⟨kd,na,0,nn,nt⟩=some ((f1,e1),st.take mk++[(f1,e1)])):=J (by rw[dF];exact fD.o);have dt:Hid ((w4.alloc (.cells #[.int .i64 (f1:Int),.int .i64 (e1:Int)] 196)).drew.ownsRow w.heap.size 196 2 (.slice (some ⟨g5,0,none⟩) mk c5) mk ((prC st).take (mk*2))):=J (Ac ep.o (fun k _ hk=>Below.heap_alloc w4 _ k hk));have a9:Hid (∀(j:Nat) (u:Value),[Value.int .i64 (f1:Int),Value.int .i64 (e1:Int)][j]? =some u->(w4.alloc (.cells #[.int .i64 (f1:Int),.int .i64 (e1:Int)] 196)).drew.cell? ((⟨w4.heap.size,0,none⟩:Addr).add j)=some u):=J (AS w4 196 [.int .i64 (f1:Int),.int .i64 (e1:Int)]);have aA:Hid (mk+1<=maxLen):=J (by unfold maxLen;omega);have aF:Hid ((mk+1)*16<=140737488355328):=J (by omega);have aC:Hid (w.heap.size<=(w4.alloc (.cells #[.int .i64 (f1:Int),.int .i64 (e1:Int)] 196)).drew.heap.size):=J (by simp;omega);clear hw4 jy ik dF q0
        go_region_law (refine step_append_lies _ rfl (.tmp 96) (.tmp 98) 192 rfl w.heap.size 196 i0 _ 2 16 Tryz.underlying192 hi aR hz1 aU rfl (by decide) _ mk ((prC st).take (mk*2)) rfl dt.o ⟨w4.heap.size,0,none⟩ 1 1 [.int .i64 (f1:Int),.int .i64 (e1:Int)] rfl rfl a9.o (by simp[Value.oneCell']) (by decide) aA.o aF.o aC.o _ rfl ?_;intro g6 c6 w6 aq aw aG bu;have cj:=J aq;have iP:=J aw;have lR:=J aG;clear aq aw aG)
        all_goals
         have ah:Hid (Ext w4 (w4.alloc (.cells #[.int .i64 (f1:Int),.int .i64 (e1:Int)] 196)).drew):=J ((Ext.refl w4).alloc _).drew;have cS:=J (Ey (u':= .slice (some ⟨g6,0,none⟩) (mk+1) c6) ep.o nr.o (fun g h1 h2=>HI.o.apart g h2 h1) ah.o bC iP.o lR.o rfl);have iI:Blk w6 w3.heap.size 196 #[.int .i64 (f1:Int),.int .i64 (e1:Int)]:=(iP.o.block w3.heap.size (qaj lr ah.o.size) (by intro he;have he2:w3.heap.size=g5:=qaA he;have:=(AV bU.o g5 rfl).2;omega)).trans (uJ.o.ext ah.o);obtain⟨y0,y1⟩:=iI.two';have dY:Hid (CV w.heap.size w6 (.slice (some ⟨g6,0,none⟩) (mk+1) c6) (mk+1) (st.take mk++[(f1,e1)])):=J (by unfold CV;rw[CE,EA,<-GV];exact cj.o);have lC:Hid ((w6.alloc (.cells #[.int .i64 (f1:Int),.int .i64 (e1:Int)] 196)).ownsRow w.heap.size 196 2 (.slice A4 i c4) i (prC all)):=J (Ac cS.o.1 (fun k _ hk=>Below.heap_alloc w6 _ k hk));have fY:=J (AS w6 196 [.int .i64 (f1:Int),.int .i64 (e1:Int)]);have eK:Hid (i+1<=maxLen):=J (by unfold maxLen;omega);have cm:Hid ((i+1)*16<=140737488355328):=J (by omega);have ll:w.heap.size<=w6.heap.size:=qaf bC cS.o.2.2.size;have bK:Hid (w.heap.size<=(w6.alloc (.cells #[.int .i64 (f1:Int),.int .i64 (e1:Int)] 196)).heap.size):=J (by simp;omega);clear iI p0 p1;go_wp2_with (at_builtin;go_must (refine wpList_append_lies _ rfl _ _ 192 rfl w.heap.size 196 i0 _ 2 16 Tryz.underlying192 hi aR hz1 aU rfl (by decide) (.slice A4 i c4) i (prC all) rfl lC.o ⟨w6.heap.size,0,none⟩ 1 1 [.int .i64 (f1:Int),.int .i64 (e1:Int)] rfl rfl fY.o (by simp[Value.oneCell']) (by decide) eK.o cm.o bK.o _ rfl ?_;intro g7 c7 w7 aK cF dH mL;have dB:=J (Ey (u':= .slice (some ⟨g7,0,none⟩) (i+1) c7) cS.o.1 dY.o (fun g h1 h2=>cS.o.2.1 g h2 h1) ((Ext.refl w6).alloc _) ll cF dH rfl);have uN:Hid (CV w.heap.size w7 (.slice (some ⟨g7,0,none⟩) (i+1) c7) (i+1) (all++[(f1,e1)])):=J (by unfold CV;rw[CE,EA];exact aK);clear aK cF dH));go_wp2_with fail;go_roundw
         case rel=>exact⟨i+1,_,_,by omega,by go_num,HI.o.next aW.o jC.o uN.o dB.o.1 lJ.o dB.o.2.1 ((HX.o.trans aD.o).more (cS.o.2.2.trans dB.o.2.2)) (by have:=cP.o;exact this)⟩
         case measure=>simp[intOf];omega
       ·have aQ:=J (ao.o (Ip ay (fun h=>hb2 h.2)));rw[ay]at az;clear ay ao;go_wp2_with fail;refine(az.o _).mono ?_
        rintro e w2 ⟨rfl,rfl⟩;go_wp2_with fail;refine(bI.o _ (lI.o.ext aM.o)).mono ?_
        rintro e w3 ⟨rfl,ae⟩;have q0:=(cO.o.ext ae).five;have lh:=(cO.o.ext ae).lt;have io:wr.heap.size<w3.heap.size+1:=by omega
        have im:wr.heap.size<w3.heap.size+1+1:=by omega
        have il:wr.heap.size<w3.heap.size+1+1+1:=by omega
        have ag:=J (aM.o.trans ae);clear ae;have oG:=(AV (bU.o.ext ag.o) g5 rfl).2;have oJ:g5<w3.heap.size+1:=by omega
        have oI:g5<w3.heap.size+1+1:=by omega
        have oH:g5<w3.heap.size+1+1+1:=by omega
        obtain⟨xR,xQ⟩:=lQ.o w3 (bU.o.ext ag.o);go_wp2_with fail;go_ret2;exact⟨_,by rw[aQ.o];rfl,HX.o.trans (ag.o.trans (((((Ext.refl w3).alloc _).alloc _).alloc _))),by rw[aQ.o,jl.o];exact bp.o.ext (ag.o.trans (((((Ext.refl w3).alloc _).alloc _).alloc _)))⟩
      ·have aQ:=J (ao.o (Ip ay (fun h=>ha (h.1.trans tX.o.symm))));rw[ay]at az;clear ay ao;go_wp2_with fail;refine(az.o _).mono ?_
       rintro e w2 ⟨rfl,rfl⟩;go_wp2_with fail;refine(bI.o _ (lI.o.ext aM.o)).mono ?_
       rintro e w3 ⟨rfl,ae⟩;have q0:=(cO.o.ext ae).five;have lh:=(cO.o.ext ae).lt;have io:wr.heap.size<w3.heap.size+1:=by omega
       have im:wr.heap.size<w3.heap.size+1+1:=by omega
       have il:wr.heap.size<w3.heap.size+1+1+1:=by omega
       have ag:=J (aM.o.trans ae);clear ae;have oG:=(AV (bU.o.ext ag.o) g5 rfl).2;have oJ:g5<w3.heap.size+1:=by omega
       have oI:g5<w3.heap.size+1+1:=by omega
       have oH:g5<w3.heap.size+1+1+1:=by omega
       obtain⟨xR,xQ⟩:=lQ.o w3 (bU.o.ext ag.o);go_wp2_with fail;go_ret2;exact⟨_,by rw[aQ.o];rfl,HX.o.trans (ag.o.trans (((((Ext.refl w3).alloc _).alloc _).alloc _))),by rw[aQ.o,jl.o];exact bp.o.ext (ag.o.trans (((((Ext.refl w3).alloc _).alloc _).alloc _)))⟩
   ·by_cases hmf:ms<2
    ·have Vz:decide (ms<2)=true:=decide_eq_true hmf;have aQ:=J (ao.o (Jg (by rw[ay,<-la.o];omega)));have Vv:((ms:Int)<2):=by omega
     rw[ay]at az;clear ay hp ao;go_wp2_with fail;refine(az.o _).mono ?_
     rintro e w2 ⟨rfl,rfl⟩;go_wp2_with fail;go_ret2;exact⟨_,by rw[aQ.o];rfl,HX.o.trans aM.o,by rw[aQ.o,jl.o];exact bp.o.ext aM.o⟩
    ·have jP:2<=ms:=by omega
     have Z4:decide (ms<2)=false:=decide_eq_false hmf;have Va:¬(ms:Int)<2:=by omega
     cases hpb:p
     ·rw[hpb]at hp bI;have aQ:=J (ao.o (Fd hp.symm));rw[ay]at az;clear ay hp ao hpb;go_wp2_with fail;refine(az.o _).mono ?_
      rintro e w2 ⟨rfl,rfl⟩;go_wp2_with fail;refine(bI.o _ (lI.o.ext aM.o)).mono ?_
      rintro e w3 ⟨rfl,ae⟩;have q0:=(cO.o.ext ae).five;have lh:=(cO.o.ext ae).lt;have io:wr.heap.size<w3.heap.size+1:=by omega
      have im:wr.heap.size<w3.heap.size+1+1:=by omega
      have il:wr.heap.size<w3.heap.size+1+1+1:=by omega
      have ag:=J (aM.o.trans ae);clear ae;go_wp2_with fail;go_ret2;exact⟨_,by rw[aQ.o];rfl,HX.o.trans ag.o,by rw[aQ.o,jl.o];exact bp.o.ext ag.o⟩
     ·rw[hpb]at hp bI;have yo:=J hp.symm;clear hpb hp;obtain⟨g5,d5,he5,tL,tl⟩:=bU.o.form (by omega);injection he5 with he5 hx5 hy5
      subst he5;clear hx5 hy5;obtain⟨z1,ij⟩:∃z1:Int,z1=(ms:Int)-1:=⟨_,rfl⟩;have qD:z1.toNat=ms-1:=by omega
      have UE:IntKind.i64.wrap ((ms:Int)-1)=z1:=by rw[IntWalk.i64_in _ (by omega),ij]
      have Uz:(0:Int)<=z1:=by omega
      have Uy:z1<(ms:Int):=by omega
      obtain⟨f1,en⟩:∃f1,f1=(st.getD (ms-1) (0,0)).1:=⟨_,rfl⟩;obtain⟨d1,ec⟩:∃d1,d1=(st.getD (ms-1) (0,0)).2:=⟨_,rfl⟩;have ti:=gP.o (ms-1) (by omega);rw[<-en,<-ec]at ti;have lQ:Hid (∀W,CV w.heap.size W (.slice (some ⟨g5,0,none⟩) ms c5) ms st->W.cell? ⟨g5,z1.toNat*2,none⟩=some (.int .i64 (f1:Int))/\W.cell? ⟨g5,z1.toNat*2+1,none⟩=some (.int .i64 (d1:Int))):=J (fun W h=>by rw[qD,en,ec];exact h.get (ms-1) (by omega));have lc:=J en;have lP:=J ec;obtain⟨zi,pP⟩:∃zi:Int,zi=(i:Int)-1:=⟨_,rfl⟩;have UD:IntKind.i64.wrap ((i:Int)-1)=zi:=by rw[IntWalk.i64_in _ (by omega),pP]
      have tX:=J pP;have sH:IntKind.i64.wrap ((d1:Int)+1)=((d1+1:Nat):Int):=by rw[IntWalk.i64_in _ (by omega)];omega
      obtain⟨e1,he1⟩:∃e1,e1=d1+1:=⟨_,rfl⟩;rw[<-he1]at sH;have lO:=J he1;have tY:=J ij;clear en ec pP he1 ij qD;obtain⟨z2,nV⟩:∃z2:Int,z2=(ms:Int)-2:=⟨_,rfl⟩;have uV:z2.toNat=ms-2:=by omega
      have sF:IntKind.i64.wrap ((ms:Int)-2)=z2:=by rw[IntWalk.i64_in _ (by omega),nV]
      have Zk:(0:Int)<=z2:=by omega
      have Zj:z2<(ms:Int):=by omega
      obtain⟨f2,nC⟩:∃f2,f2=(st.getD (ms-2) (0,0)).1:=⟨_,rfl⟩;obtain⟨d2,bE⟩:∃d2,d2=(st.getD (ms-2) (0,0)).2:=⟨_,rfl⟩;have th:=gP.o (ms-2) (by omega);rw[<-nC,<-bE]at th;have uH:Hid (∀W,CV w.heap.size W (.slice (some ⟨g5,0,none⟩) ms c5) ms st->W.cell? ⟨g5,z2.toNat*2,none⟩=some (.int .i64 (f2:Int))/\W.cell? ⟨g5,z2.toNat*2+1,none⟩=some (.int .i64 (d2:Int))):=J (fun W h=>by rw[uV,nC,bE];exact h.get (ms-2) (by omega));have qd:=J nC;have nP:=J bE;have UG:IntKind.i64.wrap ((d2:Int)+1)=((d2+1:Nat):Int):=by rw[IntWalk.i64_in _ (by omega)];omega
      obtain⟨e2,he2⟩:∃e2,e2=d2+1:=⟨_,rfl⟩;rw[<-he2]at UG;have iR:=J he2;obtain⟨mx,wL⟩:∃mx,mx=max e1 e2:=⟨_,rfl⟩;have gY:max (e1:Int) (e2:Int)=(mx:Int):=by omega
      have up:=J wL;obtain⟨zf,Uw⟩:∃zf:Int,zf=(f1:Int)-1:=⟨_,rfl⟩;have Zr:IntKind.i64.wrap ((f1:Int)-1)=zf:=by rw[IntWalk.i64_in _ (by omega),Uw]
      have Wl:=J Uw;have xT:=J nV;clear nC bE he2 nV uV wL Uw;by_cases ha:na=zf
      ·subst ha;by_cases hb2:nb=zi
       ·subst hb2;have fD:Hid (AM i st ⟨kd,na,nb,nn,nt⟩=some ((f2,mx),st.take (ms-2)++[(f2,mx)])):=J (by
         have h:=R3 (i:=i) (st:=st) (n:=nn) (t:=nt) ay (by rw[<-la.o,<-lc.o,<-Wl.o,<-tX.o];exact yo.o) (by rw[<-la.o];omega);rw[<-la.o,<-lc.o,<-Wl.o,<-tX.o,<-qd.o,<-lP.o,<-nP.o,<-lO.o,<-iR.o,<-up.o]at h;exact h)
        have cP:Hid (f2<=i+1/\mx<=i+1):=J ⟨by omega,by rw[up.o,lO.o,iR.o];omega⟩;have ZU:mx<=1000002:=by rw[up.o,lO.o,iR.o];omega
        rw[ay]at az;clear ay ao;go_wp2_with fail;refine(az.o _).mono ?_
        rintro e w2 ⟨rfl,rfl⟩;go_wp2_with fail;refine(bI.o _ (lI.o.ext aM.o)).mono ?_
        rintro e w3 ⟨rfl,ae⟩;have q0:=(cO.o.ext ae).five;have lh:=(cO.o.ext ae).lt;have io:wr.heap.size<w3.heap.size+1:=by omega
        have im:wr.heap.size<w3.heap.size+1+1:=by omega
        have il:wr.heap.size<w3.heap.size+1+1+1:=by omega
        have ag:=J (aM.o.trans ae);clear ae;have oG:=(AV (bU.o.ext ag.o) g5 rfl).2;have oJ:g5<w3.heap.size+1:=by omega
        have oI:g5<w3.heap.size+1+1:=by omega
        have oH:g5<w3.heap.size+1+1+1:=by omega
        obtain⟨xR,xQ⟩:=lQ.o w3 (bU.o.ext ag.o);obtain⟨Yy,Yx⟩:=uH.o w3 (bU.o.ext ag.o);go_upto_region 20 with fail;have u6:ms<=c5:=by
         rcases bU.o.2 with ⟨he,h0⟩|⟨g5',xP,xN,he,_,_,u6,_⟩
         ·cases he
         ·injection he with he1 he2 he3;rw[he3];exact u6
        obtain⟨w4,hw4⟩:∃w4,w4=(((w3.alloc (.cells #[.int .i64 (f2:Int),.int .i64 (mx:Int)] 196)).alloc (.cells #[.int .i64 kd,.int .i64 na,.int .i64 nb,.int .i64 nn,.string s] 95)).alloc (.cells #[.int .i64 (f1:Int),.int .i64 (d1:Int)] 196)).alloc (.cells #[.int .i64 (f2:Int),.int .i64 (d2:Int)] 196):=⟨_,rfl⟩;rw[<-hw4];have ik:Ext w3 w4:=by rw[hw4];exact(((((Ext.refl w3).alloc _).alloc _).alloc _).alloc _)
        have jy:Blk w4 w3.heap.size 196 #[.int .i64 (f2:Int),.int .i64 (mx:Int)]:=by rw[hw4];exact((((Blk.new w3 _ _).alloc _).alloc _).alloc _)
        have aD:=J (ag.o.trans ik);have uJ:=J jy;obtain⟨p0,p1⟩:=jy.two';obtain⟨mk,dF⟩:∃mk,mk=ms-2:=⟨_,rfl⟩;have vA:z2<=(c5:Int):=by have:=xT.o;omega
        have nR:z2.toNat=mk:=by have:=xT.o;omega
        have bC:w.heap.size<=w4.heap.size:=qaf HX.o.size aD.o.size;have ep:=J (Dm (m:=mk) (bU.o.ext aD.o) (by omega));have nr:=J (bp.o.ext aD.o);have lr:=jy.lt;have tB:wr.heap.size<=w3.heap.size:=ag.o.size;have lJ:Hid (mk<=st.length):=J (by rw[<-la.o];omega);have jC:Hid (AM i st ⟨kd,na,nb,nn,nt⟩=some ((f2,mx),st.take mk++[(f2,mx)])):=J (by rw[dF];exact fD.o);have dt:Hid ((w4.alloc (.cells #[.int .i64 (f2:Int),.int .i64 (mx:Int)] 196)).drew.ownsRow w.heap.size 196 2 (.slice (some ⟨g5,0,none⟩) mk c5) mk ((prC st).take (mk*2))):=J (Ac ep.o (fun k _ hk=>Below.heap_alloc w4 _ k hk));have a9:Hid (∀(j:Nat) (u:Value),[Value.int .i64 (f2:Int),Value.int .i64 (mx:Int)][j]? =some u->(w4.alloc (.cells #[.int .i64 (f2:Int),.int .i64 (mx:Int)] 196)).drew.cell? ((⟨w4.heap.size,0,none⟩:Addr).add j)=some u):=J (AS w4 196 [.int .i64 (f2:Int),.int .i64 (mx:Int)]);have aA:Hid (mk+1<=maxLen):=J (by unfold maxLen;omega);have aF:Hid ((mk+1)*16<=140737488355328):=J (by omega);have aC:Hid (w.heap.size<=(w4.alloc (.cells #[.int .i64 (f2:Int),.int .i64 (mx:Int)] 196)).drew.heap.size):=J (by simp;omega);clear hw4 jy ik dF q0
        go_region_law (refine step_append_lies _ rfl (.tmp 96) (.tmp 98) 192 rfl w.heap.size 196 i0 _ 2 16 Tryz.underlying192 hi aR hz1 aU rfl (by decide) _ mk ((prC st).take (mk*2)) rfl dt.o ⟨w4.heap.size,0,none⟩ 1 1 [.int .i64 (f2:Int),.int .i64 (mx:Int)] rfl rfl a9.o (by simp[Value.oneCell']) (by decide) aA.o aF.o aC.o _ rfl ?_;intro g6 c6 w6 aq aw aG bu;have cj:=J aq;have iP:=J aw;have lR:=J aG;clear aq aw aG)
        all_goals
         have ah:Hid (Ext w4 (w4.alloc (.cells #[.int .i64 (f2:Int),.int .i64 (mx:Int)] 196)).drew):=J ((Ext.refl w4).alloc _).drew;have cS:=J (Ey (u':= .slice (some ⟨g6,0,none⟩) (mk+1) c6) ep.o nr.o (fun g h1 h2=>HI.o.apart g h2 h1) ah.o bC iP.o lR.o rfl);have iI:Blk w6 w3.heap.size 196 #[.int .i64 (f2:Int),.int .i64 (mx:Int)]:=(iP.o.block w3.heap.size (qaj lr ah.o.size) (by intro he;have he2:w3.heap.size=g5:=qaA he;have:=(AV bU.o g5 rfl).2;omega)).trans (uJ.o.ext ah.o);obtain⟨y0,y1⟩:=iI.two';have dY:Hid (CV w.heap.size w6 (.slice (some ⟨g6,0,none⟩) (mk+1) c6) (mk+1) (st.take mk++[(f2,mx)])):=J (by unfold CV;rw[CE,EA,<-GV];exact cj.o);have lC:Hid ((w6.alloc (.cells #[.int .i64 (f2:Int),.int .i64 (mx:Int)] 196)).ownsRow w.heap.size 196 2 (.slice A4 i c4) i (prC all)):=J (Ac cS.o.1 (fun k _ hk=>Below.heap_alloc w6 _ k hk));have fY:=J (AS w6 196 [.int .i64 (f2:Int),.int .i64 (mx:Int)]);have eK:Hid (i+1<=maxLen):=J (by unfold maxLen;omega);have cm:Hid ((i+1)*16<=140737488355328):=J (by omega);have ll:w.heap.size<=w6.heap.size:=qaf bC cS.o.2.2.size;have bK:Hid (w.heap.size<=(w6.alloc (.cells #[.int .i64 (f2:Int),.int .i64 (mx:Int)] 196)).heap.size):=J (by simp;omega);clear iI p0 p1;go_wp2_with (at_builtin;go_must (refine wpList_append_lies _ rfl _ _ 192 rfl w.heap.size 196 i0 _ 2 16 Tryz.underlying192 hi aR hz1 aU rfl (by decide) (.slice A4 i c4) i (prC all) rfl lC.o ⟨w6.heap.size,0,none⟩ 1 1 [.int .i64 (f2:Int),.int .i64 (mx:Int)] rfl rfl fY.o (by simp[Value.oneCell']) (by decide) eK.o cm.o bK.o _ rfl ?_;intro g7 c7 w7 aK cF dH mL;have dB:=J (Ey (u':= .slice (some ⟨g7,0,none⟩) (i+1) c7) cS.o.1 dY.o (fun g h1 h2=>cS.o.2.1 g h2 h1) ((Ext.refl w6).alloc _) ll cF dH rfl);have uN:Hid (CV w.heap.size w7 (.slice (some ⟨g7,0,none⟩) (i+1) c7) (i+1) (all++[(f2,mx)])):=J (by unfold CV;rw[CE,EA];exact aK);clear aK cF dH));go_wp2_with fail;go_roundw
         case rel=>exact⟨i+1,_,_,by omega,by go_num,HI.o.next aW.o jC.o uN.o dB.o.1 lJ.o dB.o.2.1 ((HX.o.trans aD.o).more (cS.o.2.2.trans dB.o.2.2)) (by have:=cP.o;exact this)⟩
         case measure=>simp[intOf];omega
       ·have aQ:=J (ao.o (Io ay (fun h=>hb2 (h.2.trans tX.o.symm))));rw[ay]at az;clear ay ao;go_wp2_with fail;refine(az.o _).mono ?_
        rintro e w2 ⟨rfl,rfl⟩;go_wp2_with fail;refine(bI.o _ (lI.o.ext aM.o)).mono ?_
        rintro e w3 ⟨rfl,ae⟩;have q0:=(cO.o.ext ae).five;have lh:=(cO.o.ext ae).lt;have io:wr.heap.size<w3.heap.size+1:=by omega
        have im:wr.heap.size<w3.heap.size+1+1:=by omega
        have il:wr.heap.size<w3.heap.size+1+1+1:=by omega
        have ag:=J (aM.o.trans ae);clear ae;have oG:=(AV (bU.o.ext ag.o) g5 rfl).2;have oJ:g5<w3.heap.size+1:=by omega
        have oI:g5<w3.heap.size+1+1:=by omega
        have oH:g5<w3.heap.size+1+1+1:=by omega
        obtain⟨xR,xQ⟩:=lQ.o w3 (bU.o.ext ag.o);obtain⟨Yy,Yx⟩:=uH.o w3 (bU.o.ext ag.o);go_wp2_with fail;go_ret2;exact⟨_,by rw[aQ.o];rfl,HX.o.trans (ag.o.trans ((((((Ext.refl w3).alloc _).alloc _).alloc _).alloc _))),by rw[aQ.o,jl.o];exact bp.o.ext (ag.o.trans ((((((Ext.refl w3).alloc _).alloc _).alloc _).alloc _)))⟩
      ·have aQ:=J (ao.o (Io ay (fun h=>ha (h.1.trans (by rw[<-la.o,<-lc.o];exact Wl.o.symm)))));rw[ay]at az;clear ay ao;go_wp2_with fail;refine(az.o _).mono ?_
       rintro e w2 ⟨rfl,rfl⟩;go_wp2_with fail;refine(bI.o _ (lI.o.ext aM.o)).mono ?_
       rintro e w3 ⟨rfl,ae⟩;have q0:=(cO.o.ext ae).five;have lh:=(cO.o.ext ae).lt;have io:wr.heap.size<w3.heap.size+1:=by omega
       have im:wr.heap.size<w3.heap.size+1+1:=by omega
       have il:wr.heap.size<w3.heap.size+1+1+1:=by omega
       have ag:=J (aM.o.trans ae);clear ae;have oG:=(AV (bU.o.ext ag.o) g5 rfl).2;have oJ:g5<w3.heap.size+1:=by omega
       have oI:g5<w3.heap.size+1+1:=by omega
       have oH:g5<w3.heap.size+1+1+1:=by omega
       obtain⟨xR,xQ⟩:=lQ.o w3 (bU.o.ext ag.o);obtain⟨Yy,Yx⟩:=uH.o w3 (bU.o.ext ag.o);go_wp2_with fail;go_ret2;exact⟨_,by rw[aQ.o];rfl,HX.o.trans (ag.o.trans ((((((Ext.refl w3).alloc _).alloc _).alloc _).alloc _))),by rw[aQ.o,jl.o];exact bp.o.ext (ag.o.trans ((((((Ext.refl w3).alloc _).alloc _).alloc _).alloc _)))⟩
  ·obtain rfl:i=n:=by omega
   have pW:=aL.go;rw[qaS (by rw[<-HN.o];exact qad _),GB,<-la.o]at pW;have aS:=J pW;have HX:=J aL.ext;have bp:=J aL.ra;have jl:=J aL.ra.len;clear aL pW;go_wp2_with fail;go_ret2;exact⟨_,by rw[aS.o];rfl,HX.o,by rw[aS.o,jl.o];exact bp.o⟩
end Big
end Go.Proofs.YtkoaogkknnelaaaGreatDoor
