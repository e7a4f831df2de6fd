import Derived.Test.YtkoaogkknnelaaaGreatDoorM22
set_option linter.unusedVariables false
set_option linter.unusedSimpArgs false
set_option maxHeartbeats 8000000
set_option maxRecDepth 100000
namespace Go.Proofs.YtkoaogkknnelaaaGreatDoor
namespace Big
open Lib renaming hid → J
open Go.RowKit
def Al(g:Nat)(ts:List Tok)(tv:Value)(ns:List Nd)(nv:Value)(lg:Bool)(r:Option Ex × Nat)(w:World)(e:Ending)(w':World):Prop:=
 e= .returned (.tuple #[])/\∃nv',KR g nv nv' w w'/\match r with
  |(some x,b)=>RdR g w' ts b false (ns++Ag ns.length x) (lg || x.big) tv nv'
  |(none,b)=>∃ns' lg',RdR g w' ts b true ns' lg' tv nv'
section
variable {g:Nat} {ts:List Tok} {tv nv nv':Value} {ns:List Nd} {lg:Bool} {r:Option Ex × Nat} {w w':World} {e:Ending} {x:Ex} {b:Nat}
theorem Al.some_(h:Al g ts tv ns nv lg r w e w')(hr:r=(some x,b)):e= .returned (.tuple #[])/\∃nv',RdR g w' ts b false (ns++Ag ns.length x) (lg || x.big) tv nv'/\KR g nv nv' w w':=by
 subst hr;obtain⟨h1,nv',h2,h3⟩:=h;exact⟨h1,nv',h3,h2⟩
theorem Al.none_(h:Al g ts tv ns nv lg r w e w')(hr:r=(none,b)):e= .returned (.tuple #[])/\∃nv' ns' lg',RdR g w' ts b true ns' lg' tv nv'/\KR g nv nv' w w':=by
 subst hr;obtain⟨h1,nv',h2,ns',lg',h3⟩:=h;exact⟨h1,nv',ns',lg',h3,h2⟩
theorem Al.mkN{ns':List Nd}{lg':Bool}(hr:r=(none,b))(hk:KR g nv nv' w w')(h:RdR g w' ts b true ns' lg' tv nv'):Al g ts tv ns nv lg r w (.returned (.tuple #[])) w':=by
 subst hr;exact⟨rfl,nv',hk,ns',lg',h⟩
theorem Al.mkS(hr:r=(some x,b))(hk:KR g nv nv' w w')(h:RdR g w' ts b false (ns++Ag ns.length x) (lg || x.big) tv nv'):Al g ts tv ns nv lg r w (.returned (.tuple #[])) w':=by
 subst hr;exact⟨rfl,nv',hk,h⟩
theorem KR.kept1{n1 n2:Value}{q:Nat}{t:TypeId}{cs:Array Value}(hk:KR g n1 n2 w w')(hb:Blk w q t cs)(h1:q≠g)(h2:n1.ownBlock≠some q):Blk w' q t cs/\n2.ownBlock≠some q:=by
 refine⟨hk.blk hb h1 h2,fun e=> ?_⟩;have:=hb.lt;rcases hk.move _ e with h|h
 ·exact h2 h
 ·omega
theorem RdR.as(h:RdR g w ts b false ns lg tv nv){lg':Bool}(hl:lg=lg'){ns':List Nd}(hn:ns=ns'):RdR g w ts b false ns' lg' tv nv:=by subst hl;subst hn;exact h
end
theorem PU(p:Nat->Option Ex × Nat){ts:List Tok}{a:Nat}(hlt2:a<ts.length):C1 p ts a=(if ts[a].kind=3 then Gm p ts a
   else if ts[a].kind=1 then (some (.leaf 1 ts[a].text),a+1)
   else if Br ts[a].text≠0 then (match Gm p ts (a+1) with|(none,b)=>(none,b)|(some x,b)=>(some (.un (Br ts[a].text) 0 x),b))
   else if ts[a].text=[112,105] then (some (.leaf 3 []),a+1)
   else if ts[a].text=[101] then (some (.leaf 4 []),a+1)
   else (some (.leaf 2 ts[a].text),a+1)):=by
 have hs:isS ts a [40]=((ts[a].kind == 3) && (ts[a].text == [40])):=by
  unfold isS;rw[List.getElem?_eq_getElem hlt2]
 unfold C1;rw[List.getElem?_eq_getElem hlt2];simp only;by_cases h3:ts[a].kind=3
 ·rw[if_pos h3,if_pos h3];unfold Gm;rw[hs,h3];by_cases h4:ts[a].text=[40]
  ·rw[if_pos h4,h4];rfl
  ·rw[if_neg h4,if_neg (by simp[h4])]
 ·rw[if_neg h3,if_neg h3];split
  ·rfl
  ·split
   ·unfold Gm;by_cases h5:isS ts (a+1) [40]=true
    ·rw[if_pos h5,if_pos h5];rcases p (a+1+1) with ⟨_|x,b⟩
     ·rfl
     ·simp only;by_cases h6:isS ts b [41]=true
      ·rw[if_pos h6,if_pos h6]
      ·rw[if_neg h6,if_neg h6]
    ·rw[if_neg h5,if_neg h5]
   ·rfl
theorem Mw{B sz n:Nat}{e:TypeId}{w:World}{v:Value}{xs:List Value}(h:w.ownsRow B e sz v n xs)(g:Nat)(hg:v.ownBlock=some g):g<w.heap.size:=by
 rcases h.2 with ⟨rfl,h2⟩|⟨g',cap,cur,rfl,hb,hh,_⟩
 ·cases hg
 ·simp only[Value.ownBlock,Option.some.injEq]at hg;subst hg;rcases Nat.lt_or_ge g' w.heap.size with h|h
  ·exact h
  ·rw[Array.getElem?_eq_none h]at hh;cases hh
def Se(g:Nat)(ts:List Tok)(tv:Value)(f a:Nat):Prop:=
 ∀w ns lg nv,RdR g w ts a false ns lg tv nv->Calls Tryz.prog 66 #[.pointer (some ⟨g,0,none⟩)] w (Al g ts tv ns nv lg (Be ts f a) w)
theorem Ol(c:UInt8)(h:Gs c.toNat=true):Br [c]=0/\([c]:List UInt8)≠[112,105]/\([c]:List UInt8)≠[101]:=by
 have hall:∀n:Fin 256,Gs n.val=true->Br [UInt8.ofNat n.val]=0/\n.val≠101:=by decide+kernel
 have h1:=hall ⟨c.toNat,UInt8.toNat_lt c⟩ h;rw[UInt8.ofNat_toNat]at h1;refine⟨h1.1,by simp,fun e=>h1.2 ?_⟩;injection e with e _
 rw[e];rfl
theorem PO(g:Nat)(ts:List Tok)(tv:Value)(f a:Nat)(je:∀t∈ts,B1 t)(hs:∀a',a<a'->Se g ts tv f a')(w:World)(ns:List Nd)(lg:Bool)(nv:Value)(h:RdR g w ts a false ns lg tv nv):
  Calls Tryz.prog 240 #[.pointer (some ⟨g,0,none⟩)] w (Al g ts tv ns nv lg (C1 (Be ts f) ts a) w):=by
 have H:=J h;have HS:=J hs;have aH:=h.row;obtain⟨A,c0,rfl,ac⟩:=h.tok;have ag:nv.ownBlock≠some w.heap.size:=fun e=>by have:=(Mw h.row _ e);omega
 have U1:=J ag;obtain⟨A2,c2,rfl⟩:=aH.shape;have hle:=h.le;have fp:=h.max;have hfew:=h.few;obtain⟨⟨k0,k1,k2,k3,k4⟩,⟨f1,f2,f3,f4⟩,hg⟩:=h.blk.five';clear h hs aH ag;obtain⟨n,ie⟩:∃n,n=ts.length:=⟨_,rfl⟩;rw[<-ie]at k0 hle fp;have k8:=J ie;clear ie;rcases Nat.lt_or_ge a n with hlt|dU
 ·have hlt2:a<ts.length:=by rw[<-k8.o];exact hlt
  obtain⟨b,rfl,hbg,_,hc⟩:=ac (by omega);obtain⟨q0,q1,q2⟩:=hc a hlt2;have eB:ts[a].kind=1\/ts[a].kind=2\/(ts[a].kind=3/\∃c:UInt8,ts[a].text=[c]/\Gs c.toNat=true):=by
   rcases je ts[a] (List.getElem_mem hlt2) with ⟨h,_⟩|⟨h,_⟩|⟨h,c,h2,h3⟩
   ·exact .inl h
   ·exact .inr (.inl h)
   ·exact .inr (.inr ⟨h,c,h2,h3⟩)
  have hI:∀p,C1 p ts a=(if ts[a].kind=3 then Gm p ts a
   else if ts[a].kind=1 then (some (.leaf 1 ts[a].text),a+1)
   else if Br ts[a].text≠0 then (match Gm p ts (a+1) with|(none,b)=>(none,b)|(some x,b)=>(some (.un (Br ts[a].text) 0 x),b))
   else if ts[a].text=[112,105] then (some (.leaf 3 []),a+1)
   else if ts[a].text=[101] then (some (.leaf 4 []),a+1)
   else (some (.leaf 2 ts[a].text),a+1)):=fun p=>PU p hlt2
  have HP:=J (hI (Be ts f));have r8:isS ts a [40]=((ts[a].kind == 3) && (ts[a].text == [40])):=by
   unfold isS;rw[List.getElem?_eq_getElem hlt2]
  clear hI ac hc je;generalize ts[a].kind=tk at *;generalize ts[a].text=tx at *;generalize ts[a].at_=ta at *;generalize hR:C1 (Be ts f) ts a=R at *;clear hR;have z1:decide (n<=a)=false:=decide_eq_false (by omega);have z2:¬(n:Int)<=(a:Int):=by omega
  have aL:IntKind.i64.wrap ((a:Int)+1)=(a:Int)+1:=IntWalk.i64_in _ (by omega);go_enter Tryz.func240,Tryz.ntmps240;go_wp2_with fail;go_quiet (fail);obtain⟨w1,rB⟩:∃w1,w1=w.drewN nq:=⟨_,rfl⟩;rw[<-rB];have hd:Dr w w1:=by rw[rB];exact(Dr.refl w).drewN _
  have ja:w1.heap.size=w.heap.size:=by rw[hd.heap]
  have o6:g<w1.heap.size:=by omega
  rw[<-hd.cell]at k0 k1 k2 k3 k4 q0 q1 q2;have js:=J hd.ext;have wX:Hid ((Value.slice A2 ns.length c2).ownBlock≠some w1.heap.size):=J (by rw[ja];exact U1.o);have jS:b<w1.heap.size:=by omega
  clear rB hd ja f1 f2 f3 f4;go_upto_region 2 with fail;go_region;obtain⟨w2,aY⟩:∃w2,w2=(w1.alloc (.cells #[.int .i64 (tk:Int),.int .i64 (ta:Int),str tx] 122)).drew:=⟨_,rfl⟩;rw[<-aY];have au:Ext w1 w2:=by rw[aY];exact((Ext.refl w1).alloc _).drew
  have hb2:Blk w2 w1.heap.size 122 #[.int .i64 (tk:Int),.int .i64 (ta:Int),str tx]:=by rw[aY];exact(Blk.new w1 _ _).drew
  have aq:=J (js.o.trans au);have eN:=J (H.o.keep (js.o.trans au));have aP:=J hb2;have j0:=hb2.three';obtain⟨⟨k0,k1,k2,k3,k4⟩,⟨f1,f2,f3,f4⟩,jO⟩:=eN.o.blk.five';clear aY au hb2 q0 q1 q2 z1 z2 jS;generalize w1.heap.size=gt at *;have lU:=J o6;have px:∀q:Nat,(lg || (Ex.leaf q []).big)=lg:=fun q=>by rw[Ex.big,Bool.or_false]
  clear px;by_cases h1:tk=1
  ·subst h1;have kF:Hid (R=(some (.leaf 1 tx),a+1)):=J (by rw[HP.o,if_neg (by decide),if_pos rfl]);clear HP HS r8 eB;go_upto_region 6 with fail;have ai:=eN.o.stepR hlt2;obtain⟨w3,bf⟩:∃w3,w3=w2.setCell ⟨g,1,none⟩ (.int .i64 ((a:Int)+1)):=⟨_,rfl⟩;rw[<-bf]at ai ⊢;have cV:Blk w3 gt 122 #[.int .i64 ((1:Nat):Int),.int .i64 (ta:Int),str tx]:=by
    rw[bf];exact aP.o.far (p:=⟨g,1,none⟩) (by show gt≠g;have:=lU.o;omega) _
   have aD:=J cV;have eE:=J ai.1;have bE:=J ((KR.of_ext aq.o).trans ai.2);have j0:=cV.three';clear ai bf cV k0 k1 k2 k3 k4 f1 f2 f3 f4;have az:=J (B9 g w3 ts (a+1) false ns lg _ _ 1 0 0 tx eE.o (by omega));go_wp2_with fail;refine az.o.mono ?_
   rintro e w4 ⟨nv2,rfl,d9,dX⟩;have HE:=J (And.intro (bE.o.trans d9) dX);clear d9 dX;go_wp2_with fail
   (try simp only[Exit.inBlock,Exit.then])
   first
    |refine bodyPost_ret (results_none rfl _ _ _) rfl ?_
    |refine bodyPost_end (results_none rfl _ _ _) rfl ?_
   exact Al.mkS kF.o HE.o.1 (HE.o.2.as (by rw[Ex.big,Bool.or_false]) rfl)
  ·have WJ:((tk:Int) == 1)=false:=by rw[beq_eq_false_iff_ne];omega
   by_cases h3:tk=3
   ·subst h3;obtain⟨vB,ku,o8⟩:Br tx=0/\tx≠[112,105]/\tx≠[101]:=by
     rcases eB with h|h|⟨_,c,h,hs⟩
     ·omega
     ·omega
     ·rw[h];exact Ol c hs
    have hpb:(tx == [112,105])=false:=by rw[beq_eq_false_iff_ne];exact ku
    have zL:(tx == [101])=false:=by rw[beq_eq_false_iff_ne];exact o8
    have kF:Hid (R=Gm (Be ts f) ts a):=J (by rw[HP.o,if_pos rfl]);have iy:=J (Gt w2 tx);rw[vB]at iy;have oK:=J (fun W v h=>CX g W ts a false ns lg v (.slice A2 ns.length c2) [40] h);rw[show str [40]= .string ⟨#[40]⟩ from rfl]at oK;simp only[Bool.not_false,Bool.true_and]at oK;clear HP r8 eB vB ku o8 h1;go_wp2_with fail;refine iy.o.mono ?_
    rintro e w3 ⟨rfl,ae⟩;have aj:=J (aq.o.trans ae);have gp:=eN.o.keep ae;have eE:=J gp;have j0:=(aP.o.ext ae).three';clear ae gp k0 k1 k2 k3 k4 f1 f2 f3 f4;obtain⟨u1,dR⟩:∃u,isS ts a [40]=u:=⟨_,rfl⟩;rw[dR]at oK;cases u1
    ·have HD:=J (kF.o.trans (O2 dR));clear dR HS;go_wp2_with fail;refine(oK.o _ _ eE.o).mono ?_
     rintro e w4 ⟨rfl,oc⟩;have dX:=eE.o.keep oc.ext;have dA:=J dX;have aE:=J (aj.o.trans oc.ext);obtain⟨⟨k0,k1,k2,k3,k4⟩,⟨f1,f2,f3,f4⟩,qG⟩:=dX.blk.five';clear oc dX;go_wp2_with fail
     (try simp only[Exit.inBlock,Exit.then])
     first
      |refine bodyPost_ret (results_none rfl _ _ _) rfl ?_
      |refine bodyPost_end (results_none rfl _ _ _) rfl ?_
     have h5:=dA.o.fail;exact Al.mkN HD.o ((KR.of_ext aE.o).trans h5.2) h5.1
    ·have mY:=J dR;clear dR;go_wp2_with fail;refine(oK.o _ _ eE.o).mono ?_
     rintro e w4 ⟨rfl,oc⟩;have dX:=eE.o.keep oc.ext;have dA:=J dX;have aE:=J (aj.o.trans oc.ext);obtain⟨⟨k0,k1,k2,k3,k4⟩,⟨f1,f2,f3,f4⟩,qG⟩:=dX.blk.five';clear oc dX;go_upto_region 25 with fail;have ai:=dA.o.stepR hlt2;obtain⟨w5,dQ⟩:∃w5,w5=w4.setCell ⟨g,1,none⟩ (.int .i64 ((a:Int)+1)):=⟨_,rfl⟩;rw[<-dQ]at ai ⊢;have en:=J ((KR.of_ext aE.o).trans ai.2);have jw:=J (HS.o (a+1) (by omega) w5 ns lg _ ai.1);clear ai dQ k0 k1 k2 k3 k4 f1 f2 f3 f4;go_wp2_with fail;refine jw.o.mono ?_
     intro e w6 ak;obtain⟨r,hr⟩:∃r,Be ts f (a+1)=r:=⟨_,rfl⟩;obtain⟨_|x,b2⟩:=r
     ·obtain⟨rfl,aZ,ko,kp,aS,hk⟩:=ak.none_ hr;have HD:=J (kF.o.trans (K1 mY.o hr));have jr:=J (DP g w6 ts b2 true ko kp _ aZ [41] aS);rw[show str [41]= .string ⟨#[41]⟩ from rfl]at jr;simp only[Bool.not_true,Bool.false_and,Bool.false_eq_true,if_false,Bool.not_false]at jr;have bT:=J (en.o.trans hk);clear ak hr aS hk;go_wp2_with fail;refine jr.o.mono ?_
      rintro e w7 ⟨rfl,il,py⟩;have HE:=J (And.intro (bT.o.trans il) py);clear il py;go_wp2_with fail
      (try simp only[Exit.inBlock,Exit.then])
      first
       |refine bodyPost_ret (results_none rfl _ _ _) rfl ?_
       |refine bodyPost_end (results_none rfl _ _ _) rfl ?_
      exact Al.mkN HD.o HE.o.1 HE.o.2
     ·obtain⟨rfl,aZ,aS,hk⟩:=ak.some_ hr;have i3:=J hr;have jr:=J (DP g w6 ts b2 false _ _ _ aZ [41] aS);rw[show str [41]= .string ⟨#[41]⟩ from rfl]at jr;simp only[Bool.not_false,Bool.true_and]at jr;have bT:=J (en.o.trans hk);clear ak hr aS hk;obtain⟨u2,dF⟩:∃u,isS ts b2 [41]=u:=⟨_,rfl⟩;rw[dF]at jr;cases u2
      ·have HD:=J (kF.o.trans (MW mY.o i3.o dF));simp only[Bool.false_eq_true,if_false,Bool.not_false]at jr;clear dF;go_wp2_with fail;refine jr.o.mono ?_
       rintro e w7 ⟨rfl,il,py⟩;have HE:=J (And.intro (bT.o.trans il) py);clear il py;go_wp2_with fail
       (try simp only[Exit.inBlock,Exit.then])
       first
        |refine bodyPost_ret (results_none rfl _ _ _) rfl ?_
        |refine bodyPost_end (results_none rfl _ _ _) rfl ?_
       exact Al.mkN HD.o HE.o.1 HE.o.2
      ·have HD:=J (kF.o.trans (O1 mY.o i3.o dF));simp only[if_true,Bool.not_true]at jr;clear dF;go_wp2_with fail;refine jr.o.mono ?_
       rintro e w7 ⟨rfl,il,py⟩;have HE:=J (And.intro (bT.o.trans il) py);clear il py;go_wp2_with fail
       (try simp only[Exit.inBlock,Exit.then])
       first
        |refine bodyPost_ret (results_none rfl _ _ _) rfl ?_
        |refine bodyPost_end (results_none rfl _ _ _) rfl ?_
       exact Al.mkS HD.o HE.o.1 HE.o.2
   ·have hk2:tk=2:=by
     rcases eB with h|h|⟨h,_⟩
     ·exact absurd h h1
     ·exact h
     ·exact absurd h h3
    subst hk2;clear eB r8 WJ;by_cases ku:tx=[112,105]
    ·have hpb:(tx == [112,105])=true:=by rw[beq_iff_eq];exact ku
     have zL:(tx == [101])=false:=by rw[beq_eq_false_iff_ne,ku];decide
     have kF:Hid (R=(some (.leaf 3 []),a+1)):=J (by rw[HP.o,if_neg (by decide),if_neg (by decide),ku];rfl);clear HP HS ku;go_upto_region 9 with fail;have ai:=eN.o.stepR hlt2;obtain⟨w3,bf⟩:∃w3,w3=w2.setCell ⟨g,1,none⟩ (.int .i64 ((a:Int)+1)):=⟨_,rfl⟩;rw[<-bf]at ai ⊢;have cV:Blk w3 gt 122 #[.int .i64 ((2:Nat):Int),.int .i64 (ta:Int),str tx]:=by
      rw[bf];exact aP.o.far (p:=⟨g,1,none⟩) (by show gt≠g;have:=lU.o;omega) _
     have aD:=J cV;have eE:=J ai.1;have bE:=J ((KR.of_ext aq.o).trans ai.2);have j0:=cV.three';clear ai bf cV k0 k1 k2 k3 k4 f1 f2 f3 f4;have az:=J (B9 g w3 ts (a+1) false ns lg _ _ 3 0 0 [] eE.o (by omega));rw[show str []= .string ⟨#[]⟩ from rfl]at az;go_wp2_with fail;refine az.o.mono ?_
     rintro e w4 ⟨nv2,rfl,d9,dX⟩;have HE:=J (And.intro (bE.o.trans d9) dX);clear d9 dX;go_wp2_with fail
     (try simp only[Exit.inBlock,Exit.then])
     first
      |refine bodyPost_ret (results_none rfl _ _ _) rfl ?_
      |refine bodyPost_end (results_none rfl _ _ _) rfl ?_
     exact Al.mkS kF.o HE.o.1 (HE.o.2.as (by rw[Ex.big,Bool.or_false]) rfl)
    ·have hpb:(tx == [112,105])=false:=by rw[beq_eq_false_iff_ne];exact ku
     by_cases o8:tx=[101]
     ·have zL:(tx == [101])=true:=by rw[beq_iff_eq];exact o8
      have kF:Hid (R=(some (.leaf 4 []),a+1)):=J (by rw[HP.o,if_neg (by decide),if_neg (by decide),o8];rfl);clear HP HS ku o8;go_upto_region 9 with fail;have ai:=eN.o.stepR hlt2;obtain⟨w3,bf⟩:∃w3,w3=w2.setCell ⟨g,1,none⟩ (.int .i64 ((a:Int)+1)):=⟨_,rfl⟩;rw[<-bf]at ai ⊢;have cV:Blk w3 gt 122 #[.int .i64 ((2:Nat):Int),.int .i64 (ta:Int),str tx]:=by
       rw[bf];exact aP.o.far (p:=⟨g,1,none⟩) (by show gt≠g;have:=lU.o;omega) _
      have aD:=J cV;have eE:=J ai.1;have bE:=J ((KR.of_ext aq.o).trans ai.2);have j0:=cV.three';clear ai bf cV k0 k1 k2 k3 k4 f1 f2 f3 f4;have az:=J (B9 g w3 ts (a+1) false ns lg _ _ 4 0 0 [] eE.o (by omega));rw[show str []= .string ⟨#[]⟩ from rfl]at az;go_wp2_with fail;refine az.o.mono ?_
      rintro e w4 ⟨nv2,rfl,d9,dX⟩;have HE:=J (And.intro (bE.o.trans d9) dX);clear d9 dX;go_wp2_with fail
      (try simp only[Exit.inBlock,Exit.then])
      first
       |refine bodyPost_ret (results_none rfl _ _ _) rfl ?_
       |refine bodyPost_end (results_none rfl _ _ _) rfl ?_
      exact Al.mkS kF.o HE.o.1 (HE.o.2.as (by rw[Ex.big,Bool.or_false]) rfl)
     ·have zL:(tx == [101])=false:=by rw[beq_eq_false_iff_ne];exact o8
      have iy:=J (fun W=>Gt W tx);by_cases hf0:Br tx=0
      ·rw[hf0]at iy;have kF:Hid (R=(some (.leaf 2 tx),a+1)):=J (by rw[HP.o,if_neg (by decide),if_neg (by decide),if_neg (by rw[hf0];simp),if_neg ku,if_neg o8]);clear HP HS ku o8 hf0;go_wp2_with fail;refine(iy.o _).mono ?_
       rintro e w2' ⟨rfl,ae⟩;have sF:=J (aq.o.trans ae);have gp:=eN.o.keep ae;have sQ:=J gp;have oR:=J (aP.o.ext ae);have j0:=oR.o.three';obtain⟨⟨k0,k1,k2,k3,k4⟩,⟨f1,f2,f3,f4⟩,jO⟩:=gp.blk.five';clear ae gp aq eN aP;generalize sF=aq at *;generalize sQ=eN at *;generalize oR=aP at *;generalize w2'=w2 at *;go_upto_region 22 with fail;have ai:=eN.o.stepR hlt2;obtain⟨w3,bf⟩:∃w3,w3=w2.setCell ⟨g,1,none⟩ (.int .i64 ((a:Int)+1)):=⟨_,rfl⟩;rw[<-bf]at ai ⊢;have cV:Blk w3 gt 122 #[.int .i64 ((2:Nat):Int),.int .i64 (ta:Int),str tx]:=by
        rw[bf];exact aP.o.far (p:=⟨g,1,none⟩) (by show gt≠g;have:=lU.o;omega) _
       have aD:=J cV;have eE:=J ai.1;have bE:=J ((KR.of_ext aq.o).trans ai.2);have j0:=cV.three';clear ai bf cV k0 k1 k2 k3 k4 f1 f2 f3 f4;have az:=J (B9 g w3 ts (a+1) false ns lg _ _ 2 0 0 tx eE.o (by omega));go_wp2_with fail;refine az.o.mono ?_
       rintro e w4 ⟨nv2,rfl,d9,dX⟩;have HE:=J (And.intro (bE.o.trans d9) dX);clear d9 dX;go_wp2_with fail
       (try simp only[Exit.inBlock,Exit.then])
       first
        |refine bodyPost_ret (results_none rfl _ _ _) rfl ?_
        |refine bodyPost_end (results_none rfl _ _ _) rfl ?_
       exact Al.mkS kF.o HE.o.1 (HE.o.2.as (by rw[Ex.big,Bool.or_false]) rfl)
      ·have YQ:=ID tx hf0;have oB:Hid (R=(match Gm (Be ts f) ts (a+1) with|(none,b)=>(none,b)|(some x,b)=>(some (.un (Br tx) 0 x),b))):=J (by rw[HP.o,if_neg (by decide),if_neg (by decide),if_pos hf0]);generalize hfk:Br tx=fk at *;have hfp:(0:Int)<(fk:Int):=by omega
       have ke:=J YQ;clear HP ku o8 hf0 hfk;go_wp2_with fail;refine(iy.o _).mono ?_
       rintro e w2' ⟨rfl,ae⟩;have sF:=J (aq.o.trans ae);have gp:=eN.o.keep ae;have sQ:=J gp;have oR:=J (aP.o.ext ae);have j0:=oR.o.three';obtain⟨⟨k0,k1,k2,k3,k4⟩,⟨f1,f2,f3,f4⟩,jO⟩:=gp.blk.five';clear ae gp aq eN aP;generalize sF=aq at *;generalize sQ=eN at *;generalize oR=aP at *;generalize w2'=w2 at *;go_upto_region 15 with fail;have ai:=eN.o.stepR hlt2;obtain⟨w3,bf⟩:∃w3,w3=w2.setCell ⟨g,1,none⟩ (.int .i64 ((a:Int)+1)):=⟨_,rfl⟩;rw[<-bf]at ai ⊢;have cV:Blk w3 gt 122 #[.int .i64 ((2:Nat):Int),.int .i64 (ta:Int),str tx]:=by
        rw[bf];exact aP.o.far (p:=⟨g,1,none⟩) (by show gt≠g;have:=lU.o;omega) _
       have aD:=J cV;have eE:=J ai.1;have bE:=J ((KR.of_ext aq.o).trans ai.2);have j0:=cV.three';clear ai bf cV k0 k1 k2 k3 k4 f1 f2 f3 f4;have r9:gt≠g:=by have:=lU.o;omega
       have jr:=J (DP g w3 ts (a+1) false ns lg _ _ [40] eE.o);rw[show str [40]= .string ⟨#[40]⟩ from rfl]at jr;simp only[Bool.not_false,Bool.true_and]at jr;obtain⟨u1,dR⟩:∃u,isS ts (a+1) [40]=u:=⟨_,rfl⟩;rw[dR]at jr;cases u1
       ·have HD:Hid (R=(none,a+1)):=J (by rw[oB.o,O2 dR]);simp only[Bool.false_eq_true,if_false,Bool.not_false]at jr;clear dR HS oB;go_wp2_with fail;refine jr.o.mono ?_
        rintro e w4 ⟨rfl,d9,dX⟩;have HE:=J (And.intro (bE.o.trans d9) dX);clear d9 dX;go_wp2_with fail;refine(Ra g ts _ _ _ _ _ _ HE.o.2).mono ?_
        rintro e w5 ⟨rfl,eK,cm⟩;have iA:=J (And.intro (HE.o.1.trans eK) cm);have fe:=J (DP g w5 ts _ true _ _ _ _ [41] cm);rw[show str [41]= .string ⟨#[41]⟩ from rfl]at fe;simp only[Bool.not_true,Bool.false_and,Bool.false_eq_true,if_false,Bool.not_false]at fe;clear eK cm;go_wp2_with fail;refine fe.o.mono ?_
        rintro e w6 ⟨rfl,bK,gl⟩;have lW:=J (And.intro (iA.o.1.trans bK) gl);obtain⟨⟨k0,k1,k2,k3,k4⟩,_,iL⟩:=gl.blk.five';clear bK gl;go_wp2_with fail
        (try simp only[Exit.inBlock,Exit.then])
        first
         |refine bodyPost_ret (results_none rfl _ _ _) rfl ?_
         |refine bodyPost_end (results_none rfl _ _ _) rfl ?_
        exact Al.mkN HD.o lW.o.1 lW.o.2
       ·simp only[if_true,Bool.not_true]at jr;have mY:=J dR;clear dR;go_wp2_with fail;refine jr.o.mono ?_
        rintro e w4 ⟨rfl,d9,dX⟩;have ei:=J (bE.o.trans d9);have W4:=J (d9.kept1 aD.o r9 wX.o);have jw:=J (HS.o (a+1+1) (by omega) w4 ns lg _ dX);have ez:=Em ts f (a+1+1) dX.le;clear d9 dX HS;go_wp2_with fail;refine jw.o.mono ?_
        intro e w5 ak;obtain⟨r,hr⟩:∃r,Be ts f (a+1+1)=r:=⟨_,rfl⟩;rw[hr]at ez;obtain⟨_|x,b2⟩:=r
        ·obtain⟨rfl,aZ,ko,kp,aS,hk⟩:=ak.none_ hr;have HD:Hid (R=(none,b2)):=J (by rw[oB.o,K1 mY.o hr]);have fe:=J (DP g w5 ts b2 true ko kp _ aZ [41] aS);rw[show str [41]= .string ⟨#[41]⟩ from rfl]at fe;simp only[Bool.not_true,Bool.false_and,Bool.false_eq_true,if_false,Bool.not_false]at fe;have en:=J (ei.o.trans hk);clear ak hr aS hk ez oB;go_wp2_with fail;refine fe.o.mono ?_
         rintro e w6 ⟨rfl,bK,gl⟩;have lW:=J (And.intro (en.o.trans bK) gl);obtain⟨⟨k0,k1,k2,k3,k4⟩,_,iL⟩:=gl.blk.five';clear bK gl;go_wp2_with fail
         (try simp only[Exit.inBlock,Exit.then])
         first
          |refine bodyPost_ret (results_none rfl _ _ _) rfl ?_
          |refine bodyPost_end (results_none rfl _ _ _) rfl ?_
         exact Al.mkN HD.o lW.o.1 lW.o.2
        ·obtain⟨rfl,aZ,aS,hk⟩:=ak.some_ hr;have i3:=J hr;have ft:=ez.2.2 x rfl;simp only at ft;have fe:=J (DP g w5 ts b2 false _ _ _ aZ [41] aS);rw[show str [41]= .string ⟨#[41]⟩ from rfl]at fe;simp only[Bool.not_false,Bool.true_and]at fe;have en:=J (ei.o.trans hk);have W3:=J (hk.kept1 W4.o.1 r9 W4.o.2);have zI:=aS.few;clear ak hr aS hk ez;obtain⟨u2,dF⟩:∃u,isS ts b2 [41]=u:=⟨_,rfl⟩;rw[dF]at fe;cases u2
         ·have HD:Hid (R=(none,b2)):=J (by rw[oB.o,MW mY.o i3.o dF]);simp only[Bool.false_eq_true,if_false,Bool.not_false]at fe;clear dF oB;go_wp2_with fail;refine fe.o.mono ?_
          rintro e w6 ⟨rfl,bK,gl⟩;have lW:=J (And.intro (en.o.trans bK) gl);obtain⟨⟨k0,k1,k2,k3,k4⟩,_,iL⟩:=gl.blk.five';clear bK gl;go_wp2_with fail
          (try simp only[Exit.inBlock,Exit.then])
          first
           |refine bodyPost_ret (results_none rfl _ _ _) rfl ?_
           |refine bodyPost_end (results_none rfl _ _ _) rfl ?_
          exact Al.mkN HD.o lW.o.1 lW.o.2
         ·have HD:Hid (R=(some (.un fk 0 x),b2+1)):=J (by rw[oB.o,O1 mY.o i3.o dF]);simp only[if_true,Bool.not_true]at fe;clear dF oB;go_wp2_with fail;refine fe.o.mono ?_
          rintro e w6 ⟨rfl,bK,gl⟩;have bT:=J (en.o.trans bK);have ZY:=J (bK.kept1 W3.o.1 r9 W3.o.2);have db:=J gl;obtain⟨⟨k0,k1,k2,k3,k4⟩,_,iL⟩:=gl.blk.five';have j0:=ZY.o.1.three';clear bK gl;go_wp2_with fail;refine(iy.o _).mono ?_
          rintro e w7 ⟨rfl,bq⟩;have iR:=J (bT.o.trans (KR.of_ext bq));have az:=J (B9 g w7 ts (b2+1) false _ _ _ aZ (fk:Int) 0 0 [] (db.o.keep bq) (by omega));rw[show str []= .string ⟨#[]⟩ from rfl]at az;clear bq;go_wp2_with fail;refine az.o.mono ?_
          rintro e w8 ⟨nv2,rfl,bJ,cK⟩;have aG:Ap (fk:Int)=1:=by unfold Ap;have:=ke.o;rw[if_neg (by omega),if_neg (by omega),if_neg (by omega)]
          have gN:EO (fk:Int) 0 0 (ns++Ag ns.length x).length []=⟨(fk:Int),(((ns++Ag ns.length x).length:Nat):Int)-1,0,0,[]⟩:=by unfold EO;rw[if_pos aG]
          rw[gN]at cK;have ru:=x.size_pos;have h10:(fk == 10)=false:=by
           rw[beq_eq_false_iff_ne];have:=ke.o;omega
          have hbg:(lg || x.big)=(lg || (Ex.un fk 0 x).big):=by rw[Ex.big,h10,Bool.false_and,Bool.false_or]
          have HF:Hid (RdR g w8 ts (b2+1) false (ns++Ag ns.length (.un fk 0 x)) (lg || (Ex.un fk 0 x).big) _ nv2):=J (cK.as hbg (by
           rw[BZ,<-List.append_assoc,Bp,show ((ns.length+x.size-1:Nat):Int)=((ns.length+x.size:Nat):Int)-1 by omega]))
          have eX:=J (iR.o.trans bJ);clear bJ cK aG gN h10 hbg;go_wp2_with fail
          (try simp only[Exit.inBlock,Exit.then])
          first
           |refine bodyPost_ret (results_none rfl _ _ _) rfl ?_
           |refine bodyPost_end (results_none rfl _ _ _) rfl ?_
          exact Al.mkS HD.o eX.o HF.o
 ·have HI:Hid (C1 (Be ts f) ts a=(none,a)):=J (by
   unfold C1;rw[List.getElem?_eq_none (by rw[<-k8.o];exact dU)])
  have z1:decide (n<=a)=true:=decide_eq_true dU;have z2:(n:Int)<=(a:Int):=by omega
  clear ac;go_enter Tryz.func240,Tryz.ntmps240;go_wp2_with fail;go_quiet (fail);go_wp2_with fail
  (try simp only[Exit.inBlock,Exit.then])
  refine bodyPost_ret (results_none rfl _ _ _) rfl ?_
  have h3:=(H.o.keep ((Ext.refl w).drewN nq)).fail;exact Al.mkN HI.o ((KR.of_ext ((Ext.refl w).drewN nq)).trans h3.2) h3.1
theorem Pd{z:Int}{n:Nat}{x:Ex}(h:z=(n:Int)\/z= -(n:Int)):(Ex.un 10 z x).big=(decide (64<n) || x.big):=by
 rw[Ex.big];have:(!(decide (-64<=z/\z<=64)))=decide (64<n):=by
  rw[<-decide_not,decide_eq_decide];omega
 rw[this];rfl
theorem EV{z:Int}{len:Nat}:EO 10 0 z len []=⟨10,(len:Int)-1,0,z,[]⟩:=by
 unfold EO;rw[if_pos (by decide)]
theorem JB{c:Nat}(h:Ci c=true):(48<=c/\c<=57)\/c=46:=by
 unfold Ci Dz at h;simp only[Bool.or_eq_true,Bool.and_eq_true,decide_eq_true_eq,beq_iff_eq]at h;exact h
theorem Jj(g:Nat)(ts:List Tok)(tv:Value)(f a:Nat)(je:∀t∈ts,B1 t)(hs:∀a',a<a'->Se g ts tv f a')(w:World)(ns:List Nd)(lg:Bool)(nv:Value)(h:RdR g w ts a false ns lg tv nv):
  Calls Tryz.prog 206 #[.pointer (some ⟨g,0,none⟩)] w (Al g ts tv ns nv lg (AT (Be ts f) ts a) w):=by
 have jz:=J (PO g ts tv f a je hs w ns lg nv h);have fB:=Jy (Em ts f) a h.le;have fp:=h.max;have dn:=J je;clear h hs je;have tj:=J (fun W a bad ns lg nv h=>CX g W ts a bad ns lg tv nv [94] h);have xo:=J (fun W a bad ns lg nv h=>CX g W ts a bad ns lg tv nv [45] h);rw[show str [94]= .string ⟨#[94]⟩ from rfl]at tj;rw[show str [45]= .string ⟨#[45]⟩ from rfl]at xo;go_enter Tryz.func206,Tryz.ntmps206;go_wp2_with fail;refine jz.o.mono ?_
 intro e w1 ak;obtain⟨r,hr⟩:∃r,C1 (Be ts f) ts a=r:=⟨_,rfl⟩;rw[hr]at fB;obtain⟨_|x,b⟩:=r
 ·obtain⟨rfl,aZ,ko,kp,aS,hk⟩:=ak.none_ hr;have HD:=J (Mr hr);have HE:=J (And.intro hk aS);have ti:=J (tj.o w1 b true ko kp aZ aS);simp only[Bool.not_true,Bool.false_and]at ti;clear ak hr aS hk fB;go_wp2_with fail;refine ti.o.mono ?_
  rintro e w2 ⟨rfl,hd⟩;have iA:=J (And.intro (HE.o.1.trans (KR.of_ext hd.ext)) (HE.o.2.keep hd.ext));clear hd;go_wp2_with fail
  (try simp only[Exit.inBlock,Exit.then])
  first
   |refine bodyPost_ret (results_none rfl _ _ _) rfl ?_
   |refine bodyPost_end (results_none rfl _ _ _) rfl ?_
  exact Al.mkN HD.o iA.o.1 iA.o.2
 ·obtain⟨rfl,aZ,aS,hk⟩:=ak.some_ hr;have ft:=fB.2.2 x rfl;have fH:=fB.2.1;simp only at ft fH;have HR:=J hr;have HE:=J (And.intro hk aS);have ti:=J (tj.o w1 b false _ _ aZ aS);simp only[Bool.not_false,Bool.true_and]at ti;clear ak hr aS hk fB;obtain⟨u1,dR⟩:∃u,isS ts b [94]=u:=⟨_,rfl⟩;rw[dR]at ti;cases u1
  ·have HD:=J (LB HR.o dR);clear dR;go_wp2_with fail;refine ti.o.mono ?_
   rintro e w2 ⟨rfl,hd⟩;have iA:=J (And.intro (HE.o.1.trans (KR.of_ext hd.ext)) (HE.o.2.keep hd.ext));clear hd;go_wp2_with fail
   (try simp only[Exit.inBlock,Exit.then])
   first
    |refine bodyPost_ret (results_none rfl _ _ _) rfl ?_
    |refine bodyPost_end (results_none rfl _ _ _) rfl ?_
   exact Al.mkS HD.o iA.o.1 iA.o.2
  ·have jt:=Cj dR;have mY:=J dR;have hwb:IntKind.i64.wrap ((b:Int)+1)=(b:Int)+1:=IntWalk.i64_in _ (by omega);clear dR;go_wp2_with fail;refine ti.o.mono ?_
   rintro e w2 ⟨rfl,hd⟩;have hr2:=HE.o.2.keep hd.ext;have eN:=J hr2;have gU:=J (HE.o.1.trans (KR.of_ext hd.ext));obtain⟨⟨k0,k1,k2,k3,k4⟩,⟨f1,f2,f3,f4⟩,jO⟩:=hr2.blk.five';clear hd hr2;go_upto_region 4 with fail;have ai:=eN.o.stepR jt;obtain⟨w3,bf⟩:∃w3,w3=w2.setCell ⟨g,1,none⟩ (.int .i64 ((b:Int)+1)):=⟨_,rfl⟩;rw[<-bf]at ai ⊢;have bE:=J (gU.o.trans ai.2);have eE:=J ai.1;have lT:=J (xo.o w3 (b+1) false _ _ aZ ai.1);simp only[Bool.not_false,Bool.true_and]at lT;clear ai bf k0 k1 k2 k3 k4 f1 f2 f3 f4;obtain⟨u2,dF⟩:∃u,isS ts (b+1) [45]=u:=⟨_,rfl⟩;rw[dF]at lT;cases u2
   ·have wK:=J dF;clear dF;go_wp2_with fail;refine lT.o.mono ?_
    rintro e w5 ⟨rfl,hd⟩;have bW:=J (eE.o.keep hd.ext);have en:=J (bE.o.trans (KR.of_ext hd.ext));clear hd;obtain⟨c1,hc1⟩:∃c1,c1=b+1:=⟨_,rfl⟩;rw[<-hc1]at bW;have qo:=J hc1;have ar:Hid (E5 ts c1=none->AT (Be ts f) ts a=(none,c1)):=J (fun h=>by rw[hc1]at h ⊢;exact Ki HR.o mY.o wK.o h);obtain⟨A,c0,rfl,ac⟩:=bW.o.tok;have rY:=bW.o.le;have nX:=bW.o.few;obtain⟨⟨k0,k1,k2,k3,k4⟩,⟨f1,f2,f3,f4⟩,fT⟩:=bW.o.blk.five';obtain⟨n,ie⟩:∃n,n=ts.length:=⟨_,rfl⟩;rw[<-ie]at k0 rY fp;have k8:=J ie;have b7:=ac;clear ie hc1 ac;generalize hlx:(lg || x.big)=lgx at *;have Vc:=J hlx;clear hlx;rcases Nat.lt_or_ge c1 n with hlt|dU
    ·have hlt2:c1<ts.length:=by rw[<-k8.o];exact hlt
     obtain⟨bt,si,hbg,jS,hc⟩:=b7 (by omega);subst si;obtain⟨q0,q1,q2⟩:=hc c1 hlt2;have hI:E5 ts c1=if ts[c1].kind=1 then C4 ts[c1].text else none:=by
      unfold E5;rw[List.getElem?_eq_getElem hlt2]
     have eB:ts[c1].kind=1->Aj Ci ts[c1].text=ts[c1].text.length:=fun h1=>by
      rcases dn.o ts[c1] (List.getElem_mem hlt2) with ⟨_,_,h,_⟩|⟨h,_⟩|⟨h,_⟩
      ·exact h
      ·omega
      ·omega
     have iy:=J eB;clear hc eB b7;generalize ts[c1].kind=tk at *;generalize ts[c1].text=tx at *;have z1:decide (n<=c1)=false:=decide_eq_false (by omega);by_cases hk:tk=1
     ·subst hk;rw[if_pos rfl]at hI;by_cases hl2:tx.length<=2
      ·have z2:decide (2<tx.length)=false:=decide_eq_false (by omega);have z3:¬(2:Int)<(tx.length:Int):=by omega
       have aV:=iy.o rfl;have sO:=J aV;obtain⟨cf,zY⟩:∃cf:World->Nat,∀W:World,(convert 9 221 (str tx)).run Tryz.prog W= .ok (.slice (some ⟨W.heap.size,0,none⟩) tx.length (cf W)) (B0 W tx):=
        ⟨fun W=>Classical.choose (DR W tx),fun W=>(Classical.choose_spec (DR W tx)).1⟩
       clear aV;go_wp2_with fail;go_quiet (fail);obtain⟨w6,cH⟩:∃w6,w6=w5.drewN nq:=⟨_,rfl⟩;rw[<-cH];have hd:Dr w5 w6:=by rw[cH];exact(Dr.refl w5).drewN _
       rw[<-hd.cell]at k0 k1 k2 k3 k4 q0 q1 q2;have aO:=J ((hd.ext.trans (Ext.refl w6).drew).trans (FX w6.drew tx));have HI:=J hI;have bH:Hid (∀j,j<tx.length->(B0 w6.drew tx).cell? ⟨w6.heap.size,j,none⟩=some (.int .u8 (Ac tx j:Int))):=J (fun j hj=>Fq w6.drew tx j hj);clear cH hd hI;go_upto_region 10 with fail;go_region;clear zY k0 k1 k2 k3 k4 f1 f2 f3 f4 q0 q1 q2 z1 z2 z3;generalize B0 w6.drew tx=wb at *;generalize w6.heap.size=gb at *;generalize cf w6.drew=cb at *;have jF:=bW.o.keep aO.o;have kZ:=J jF;have iI:=J (en.o.trans (KR.of_ext aO.o));obtain⟨⟨k0,k1,k2,k3,k4⟩,⟨f1,f2,f3,f4⟩,cw⟩:=jF.blk.five';clear jF;go_wp2_with fail
       go_loop [3,82] (fun s3 rh=>∃i:Nat,i<=tx.length/\s3= .int .i64 (Ez (tx.take i):Int)/\rh= .int .i64 (i:Int)/\Hid ((tx.take i).all (fun c=>Dz c.toNat)=true)) (fun _ rh=>tx.length-(intOf rh).toNat)
       case atStart=>exact⟨0,Nat.zero_le _,rfl,rfl,J rfl⟩
       case round=>
        obtain⟨i,hi,rfl,rfl,fQ⟩:=hrel;by_cases hit:i<tx.length
        ·have ai:=bH.o i hit;have pP:=O8 i fQ.o hl2;have aF:=J (K9 tx i hit);have iq:=Bu tx i hit;have cA:=J (List.take_succ_eq_append_getElem hit);have oj:=CM tx i;have dY:=(Hv Ci tx i (by rw[sO.o];exact hit)).2;rw[<-iq]at dY;have dg:=JB dY;have gJ:=J iq;obtain⟨c,hc⟩:∃c,c=Ac tx i:=⟨_,rfl⟩;rw[<-hc]at ai oj dg;have qm:=J hc;clear iq hc dY;generalize hdv:Ez (tx.take i)=dv at *;have xw:=J hdv;clear hdv;rcases dg with mT|rfl
         ·have y1:((c:Int) == 46)=false:=by rw[beq_eq_false_iff_ne];omega
          have y2:(c == 46)=false:=by rw[beq_eq_false_iff_ne];omega
          have xE:IntKind.i64.wrap (10*(dv:Int))=((10*dv:Nat):Int):=by rw[IntWalk.i64_in _ (by omega)];omega
          have hwc:IntKind.u8.wrap ((c:Int)-48)=((c-48:Nat):Int):=by
           have:IntKind.u8.wrap ((c:Int)-48)=((c:Int)-48) % 256:=rfl;rw[this];omega
          have yS:IntKind.i64.wrap (((c-48:Nat):Int))=((c-48:Nat):Int):=IntWalk.i64_in _ (by omega);obtain⟨p1,dS⟩:∃p1,p1=10*dv:=⟨_,rfl⟩;obtain⟨p2,dp⟩:∃p2,p2=c-48:=⟨_,rfl⟩;rw[<-dS]at xE;rw[<-dp]at hwc yS;have pr:IntKind.i64.wrap ((p1:Int)+(p2:Int))=((p1+p2:Nat):Int):=by rw[IntWalk.i64_in _ (by omega)];omega
          obtain⟨p3,nI⟩:∃p3,p3=p1+p2:=⟨_,rfl⟩;rw[<-nI]at pr;have HV:Hid (Ez (tx.take (i+1))=p3):=J (by rw[aF.o,<-gJ.o,<-qm.o,nI,dS,dp]);have nh:Hid ((tx.take (i+1)).all (fun c=>Dz c.toNat)=true):=J (by
           rw[cA.o,List.all_append,fQ.o,List.all_cons,List.all_nil,<-gJ.o,<-qm.o];unfold Dz;simp[mT.1,mT.2])
          clear dS dp nI mT;go_wp2_with fail
          go_round
          case rel=>exact⟨i+1,by omega,by rw[HV.o],by go_num,nh⟩
          case measure=>simp[intOf];omega
         ·have i4:Hid (AT (Be ts f) ts a=(none,c1)):=J (ar.o (by
           rw[HI.o];unfold C4;rw[if_neg];intro hh;have h2:=List.all_eq_true.1 hh.2 tx[i] (List.getElem_mem hit);rw[<-gJ.o,<-qm.o]at h2
           revert h2
           decide))
          go_wp2_with fail
          (try simp only[Exit.inBlock,Exit.then])
          first
           |refine bodyPost_ret (results_none rfl _ _ _) rfl ?_
           |refine bodyPost_end (results_none rfl _ _ _) rfl ?_
          have h3:=kZ.o.fail;exact Al.mkN i4.o (iI.o.trans h3.2) h3.1
        ·obtain rfl:i=tx.length:=by omega
         have hal:=fQ.o;rw[List.take_of_length_le (Nat.le_refl _)]at hal;rw[List.take_of_length_le (Nat.le_refl _)];have jg:E5 ts c1=some (Ez tx):=by
          rw[HI.o];unfold C4 Ez;rw[if_pos ⟨hl2,hal⟩]
         have zm:=IX jg;obtain⟨z,hz⟩:∃z:Int,z=(Ez tx:Int):=⟨_,rfl⟩;have cP:Hid (AT (Be ts f) ts a=(some (.un 10 z x),c1+1)):=J (by
          rw[hz,qo.o];rw[qo.o]at jg;exact NW HR.o mY.o wK.o jg)
         have tZ:Hid (z=(Ez tx:Int)\/z= -(Ez tx:Int)):=J (by omega);generalize Ez tx=dv at *;have bU:IntKind.i64.wrap ((dv:Int))=z:=by rw[IntWalk.i64_in _ (by omega),hz]
         have aL:IntKind.i64.wrap ((c1:Int)+1)=(c1:Int)+1:=IntWalk.i64_in _ (by omega);clear hal hz jg;go_upto_region 18 with fail;have ai:=kZ.o.stepR hlt2;obtain⟨w7,cU⟩:∃w7,w7=wb.setCell ⟨g,1,none⟩ (.int .i64 ((c1:Int)+1)):=⟨_,rfl⟩;rw[<-cU]at ai ⊢;have iR:=J (iI.o.trans ai.2);have UW:=J ai.1;obtain⟨⟨k0,k1,k2,k3,k4⟩,⟨f1,f2,f3,f4⟩,iK⟩:=ai.1.blk.five';clear ai cU;have cj:Hid (∀q,q=(lgx || decide (64<dv))->q=(lg || (Ex.un 10 z x).big)):=J (fun q hq=>by
          rw[hq,Pd tZ.o,<-Vc.o];cases lg<;>cases x.big<;>simp)
         have mp:∀q:Bool,q=(lgx || decide (64<dv))->Hid (∃w8,w8=w7.setCell ⟨g,4,none⟩ (.bool q)/\RdR g w8 ts (c1+1) false (ns++Ag ns.length x) q _ aZ/\KR g nv aZ w w8):=fun q _=>J (by
          have h:=UW.o.large q;exact⟨_,rfl,h.1,iR.o.trans h.2⟩)
         have kR:(ns++Ag ns.length x).length+1<=c1+1:=by omega
         cases lgx
         ·by_cases hq:64<dv
          ·have rH:decide (64<dv)=true:=decide_eq_true hq;have zc:(64:Int)<(dv:Int):=by omega
           have ic:true=(false || decide (64<dv)):=by rw[rH];rfl
           obtain⟨w8,cN,cK,bJ⟩:=(mp true ic).o;have HQ:=J (cj.o true ic);clear ic;go_upto_region 19 with fail;rw[<-cN];have az:=J (B9 g w8 ts (c1+1) false _ true _ aZ 10 0 z [] cK kR);rw[show str []= .string ⟨#[]⟩ from rfl,EV]at az;have eX:=J bJ;clear cN cK bJ mp k0 k1 k2 k3 k4 f1 f2 f3 f4;go_wp2_with fail;refine az.o.mono ?_
           rintro e w9 ⟨nv2,rfl,bz,jG⟩;have ru:=x.size_pos;have HF:Hid (RdR g w9 ts (c1+1) false (ns++Ag ns.length (.un 10 z x)) (lg || (Ex.un 10 z x).big) _ nv2):=J (jG.as HQ.o (by
            rw[BZ,<-List.append_assoc,Bp,show ((ns.length+x.size-1:Nat):Int)=((ns.length+x.size:Nat):Int)-1 by omega];rfl))
           have eI:=J (eX.o.trans bz);clear bz jG;go_wp2_with fail
           (try simp only[Exit.inBlock,Exit.then])
           first
            |refine bodyPost_ret (results_none rfl _ _ _) rfl ?_
            |refine bodyPost_end (results_none rfl _ _ _) rfl ?_
           exact Al.mkS cP.o eI.o HF.o
          ·have rH:decide (64<dv)=false:=decide_eq_false hq;have zc:¬(64:Int)<(dv:Int):=by omega
           have ic:false=(false || decide (64<dv)):=by rw[rH];rfl
           obtain⟨w8,cN,cK,bJ⟩:=(mp false ic).o;have HQ:=J (cj.o false ic);clear ic;go_upto_region 19 with fail;rw[<-cN];have az:=J (B9 g w8 ts (c1+1) false _ false _ aZ 10 0 z [] cK kR);rw[show str []= .string ⟨#[]⟩ from rfl,EV]at az;have eX:=J bJ;clear cN cK bJ mp k0 k1 k2 k3 k4 f1 f2 f3 f4;go_wp2_with fail;refine az.o.mono ?_
           rintro e w9 ⟨nv2,rfl,bz,jG⟩;have ru:=x.size_pos;have HF:Hid (RdR g w9 ts (c1+1) false (ns++Ag ns.length (.un 10 z x)) (lg || (Ex.un 10 z x).big) _ nv2):=J (jG.as HQ.o (by
            rw[BZ,<-List.append_assoc,Bp,show ((ns.length+x.size-1:Nat):Int)=((ns.length+x.size:Nat):Int)-1 by omega];rfl))
           have eI:=J (eX.o.trans bz);clear bz jG;go_wp2_with fail
           (try simp only[Exit.inBlock,Exit.then])
           first
            |refine bodyPost_ret (results_none rfl _ _ _) rfl ?_
            |refine bodyPost_end (results_none rfl _ _ _) rfl ?_
           exact Al.mkS cP.o eI.o HF.o
         ·have ic:true=(true || decide (64<dv)):=rfl;obtain⟨w8,cN,cK,bJ⟩:=(mp true ic).o;have HQ:=J (cj.o true ic);clear ic;go_upto_region 19 with fail;rw[<-cN];have az:=J (B9 g w8 ts (c1+1) false _ true _ aZ 10 0 z [] cK kR);rw[show str []= .string ⟨#[]⟩ from rfl,EV]at az;have eX:=J bJ;clear cN cK bJ mp k0 k1 k2 k3 k4 f1 f2 f3 f4;go_wp2_with fail;refine az.o.mono ?_
          rintro e w9 ⟨nv2,rfl,bz,jG⟩;have ru:=x.size_pos;have HF:Hid (RdR g w9 ts (c1+1) false (ns++Ag ns.length (.un 10 z x)) (lg || (Ex.un 10 z x).big) _ nv2):=J (jG.as HQ.o (by
           rw[BZ,<-List.append_assoc,Bp,show ((ns.length+x.size-1:Nat):Int)=((ns.length+x.size:Nat):Int)-1 by omega];rfl))
          have eI:=J (eX.o.trans bz);clear bz jG;go_wp2_with fail
          (try simp only[Exit.inBlock,Exit.then])
          first
           |refine bodyPost_ret (results_none rfl _ _ _) rfl ?_
           |refine bodyPost_end (results_none rfl _ _ _) rfl ?_
          exact Al.mkS cP.o eI.o HF.o
      ·have i4:Hid (AT (Be ts f) ts a=(none,c1)):=J (ar.o (by rw[hI];unfold C4;rw[if_neg (fun h=>hl2 h.1)]));have z2:decide (2<tx.length)=true:=decide_eq_true (by omega);have z3:(2:Int)<(tx.length:Int):=by omega
       clear hI hl2;go_wp2_with fail;go_quiet (fail);go_wp2_with fail
       (try simp only[Exit.inBlock,Exit.then])
       first
        |refine bodyPost_ret (results_none rfl _ _ _) rfl ?_
        |refine bodyPost_end (results_none rfl _ _ _) rfl ?_
       have h3:=(bW.o.keep ((Ext.refl w5).drewN nq)).fail;exact Al.mkN i4.o (en.o.trans ((KR.of_ext ((Ext.refl w5).drewN nq)).trans h3.2)) h3.1
     ·have hk2:((tk:Int) != 1)=true:=by rw[bne_iff_ne];omega
      have i4:Hid (AT (Be ts f) ts a=(none,c1)):=J (ar.o (by rw[hI,if_neg hk]));clear hI hk;go_wp2_with fail;go_quiet (fail);go_wp2_with fail
      (try simp only[Exit.inBlock,Exit.then])
      first
       |refine bodyPost_ret (results_none rfl _ _ _) rfl ?_
       |refine bodyPost_end (results_none rfl _ _ _) rfl ?_
      have h3:=(bW.o.keep ((Ext.refl w5).drewN nq)).fail;exact Al.mkN i4.o (en.o.trans ((KR.of_ext ((Ext.refl w5).drewN nq)).trans h3.2)) h3.1
    ·have i4:Hid (AT (Be ts f) ts a=(none,c1)):=J (ar.o (by
      unfold E5;rw[List.getElem?_eq_none (by rw[<-k8.o];exact dU)]))
     have z1:decide (n<=c1)=true:=decide_eq_true dU;have z2:(n:Int)<=(c1:Int):=by omega
     clear b7;go_wp2_with fail;go_quiet (fail);go_wp2_with fail
     (try simp only[Exit.inBlock,Exit.then])
     first
      |refine bodyPost_ret (results_none rfl _ _ _) rfl ?_
      |refine bodyPost_end (results_none rfl _ _ _) rfl ?_
     have h3:=(bW.o.keep ((Ext.refl w5).drewN nq)).fail;exact Al.mkN i4.o (en.o.trans ((KR.of_ext ((Ext.refl w5).drewN nq)).trans h3.2)) h3.1
   ·have r6:=Cj dF;have wK:=J dF;have uu:IntKind.i64.wrap (((b+1:Nat):Int)+1)=((b+1:Nat):Int)+1:=IntWalk.i64_in _ (by omega);clear dF;go_wp2_with fail;refine lT.o.mono ?_
    rintro e w4 ⟨rfl,hd⟩;have dX:=eE.o.keep hd.ext;have dA:=J dX;have ei:=J (bE.o.trans (KR.of_ext hd.ext));obtain⟨⟨k0,k1,k2,k3,k4⟩,⟨f1,f2,f3,f4⟩,qG⟩:=dX.blk.five';clear hd dX hwb;obtain⟨b1,aX⟩:∃b1,b1=b+1:=⟨_,rfl⟩;rw[<-aX]at k1 uu r6;have aM:=J aX;clear aX;go_upto_region 7 with fail;have ai:=dA.o.stepR (by rw[<-aM.o];exact r6);rw[<-aM.o]at ai;obtain⟨w5,dQ⟩:∃w5,w5=w4.setCell ⟨g,1,none⟩ (.int .i64 ((b1:Int)+1)):=⟨_,rfl⟩;rw[<-dQ]at ai ⊢;rw[aM.o]at ai;have bW:=J ai.1;have en:=J (ei.o.trans ai.2);clear ai dQ r6 uu k0 k1 k2 k3 k4 f1 f2 f3 f4;obtain⟨c1,hc1⟩:∃c1,c1=b+1+1:=⟨_,rfl⟩;rw[<-hc1]at bW;have qo:=J hc1;have ar:Hid (E5 ts c1=none->AT (Be ts f) ts a=(none,c1)):=J (fun h=>by rw[hc1]at h ⊢;exact Kj HR.o mY.o wK.o h);obtain⟨A,c0,rfl,ac⟩:=bW.o.tok;have rY:=bW.o.le;have nX:=bW.o.few;obtain⟨⟨k0,k1,k2,k3,k4⟩,⟨f1,f2,f3,f4⟩,fT⟩:=bW.o.blk.five';obtain⟨n,ie⟩:∃n,n=ts.length:=⟨_,rfl⟩;rw[<-ie]at k0 rY fp;have k8:=J ie;have b7:=ac;clear ie hc1 ac;generalize hlx:(lg || x.big)=lgx at *;have Vc:=J hlx;clear hlx;rcases Nat.lt_or_ge c1 n with hlt|dU
    ·have hlt2:c1<ts.length:=by rw[<-k8.o];exact hlt
     obtain⟨bt,si,hbg,jS,hc⟩:=b7 (by omega);subst si;obtain⟨q0,q1,q2⟩:=hc c1 hlt2;have hI:E5 ts c1=if ts[c1].kind=1 then C4 ts[c1].text else none:=by
      unfold E5;rw[List.getElem?_eq_getElem hlt2]
     have eB:ts[c1].kind=1->Aj Ci ts[c1].text=ts[c1].text.length:=fun h1=>by
      rcases dn.o ts[c1] (List.getElem_mem hlt2) with ⟨_,_,h,_⟩|⟨h,_⟩|⟨h,_⟩
      ·exact h
      ·omega
      ·omega
     have iy:=J eB;clear hc eB b7;generalize ts[c1].kind=tk at *;generalize ts[c1].text=tx at *;have z1:decide (n<=c1)=false:=decide_eq_false (by omega);by_cases hk:tk=1
     ·subst hk;rw[if_pos rfl]at hI;by_cases hl2:tx.length<=2
      ·have z2:decide (2<tx.length)=false:=decide_eq_false (by omega);have z3:¬(2:Int)<(tx.length:Int):=by omega
       have aV:=iy.o rfl;have sO:=J aV;obtain⟨cf,zY⟩:∃cf:World->Nat,∀W:World,(convert 9 221 (str tx)).run Tryz.prog W= .ok (.slice (some ⟨W.heap.size,0,none⟩) tx.length (cf W)) (B0 W tx):=
        ⟨fun W=>Classical.choose (DR W tx),fun W=>(Classical.choose_spec (DR W tx)).1⟩
       clear aV;go_wp2_with fail;go_quiet (fail);obtain⟨w6,cH⟩:∃w6,w6=w5.drewN nq:=⟨_,rfl⟩;rw[<-cH];have hd:Dr w5 w6:=by rw[cH];exact(Dr.refl w5).drewN _
       rw[<-hd.cell]at k0 k1 k2 k3 k4 q0 q1 q2;have aO:=J ((hd.ext.trans (Ext.refl w6).drew).trans (FX w6.drew tx));have HI:=J hI;have bH:Hid (∀j,j<tx.length->(B0 w6.drew tx).cell? ⟨w6.heap.size,j,none⟩=some (.int .u8 (Ac tx j:Int))):=J (fun j hj=>Fq w6.drew tx j hj);clear cH hd hI;go_upto_region 10 with fail;go_region;clear zY k0 k1 k2 k3 k4 f1 f2 f3 f4 q0 q1 q2 z1 z2 z3;generalize B0 w6.drew tx=wb at *;generalize w6.heap.size=gb at *;generalize cf w6.drew=cb at *;have jF:=bW.o.keep aO.o;have kZ:=J jF;have iI:=J (en.o.trans (KR.of_ext aO.o));obtain⟨⟨k0,k1,k2,k3,k4⟩,⟨f1,f2,f3,f4⟩,cw⟩:=jF.blk.five';clear jF;go_wp2_with fail
       go_loop [3,82] (fun s3 rh=>∃i:Nat,i<=tx.length/\s3= .int .i64 (Ez (tx.take i):Int)/\rh= .int .i64 (i:Int)/\Hid ((tx.take i).all (fun c=>Dz c.toNat)=true)) (fun _ rh=>tx.length-(intOf rh).toNat)
       case atStart=>exact⟨0,Nat.zero_le _,rfl,rfl,J rfl⟩
       case round=>
        obtain⟨i,hi,rfl,rfl,fQ⟩:=hrel;by_cases hit:i<tx.length
        ·have ai:=bH.o i hit;have pP:=O8 i fQ.o hl2;have aF:=J (K9 tx i hit);have iq:=Bu tx i hit;have cA:=J (List.take_succ_eq_append_getElem hit);have oj:=CM tx i;have dY:=(Hv Ci tx i (by rw[sO.o];exact hit)).2;rw[<-iq]at dY;have dg:=JB dY;have gJ:=J iq;obtain⟨c,hc⟩:∃c,c=Ac tx i:=⟨_,rfl⟩;rw[<-hc]at ai oj dg;have qm:=J hc;clear iq hc dY;generalize hdv:Ez (tx.take i)=dv at *;have xw:=J hdv;clear hdv;rcases dg with mT|rfl
         ·have y1:((c:Int) == 46)=false:=by rw[beq_eq_false_iff_ne];omega
          have y2:(c == 46)=false:=by rw[beq_eq_false_iff_ne];omega
          have xE:IntKind.i64.wrap (10*(dv:Int))=((10*dv:Nat):Int):=by rw[IntWalk.i64_in _ (by omega)];omega
          have hwc:IntKind.u8.wrap ((c:Int)-48)=((c-48:Nat):Int):=by
           have:IntKind.u8.wrap ((c:Int)-48)=((c:Int)-48) % 256:=rfl;rw[this];omega
          have yS:IntKind.i64.wrap (((c-48:Nat):Int))=((c-48:Nat):Int):=IntWalk.i64_in _ (by omega);obtain⟨p1,dS⟩:∃p1,p1=10*dv:=⟨_,rfl⟩;obtain⟨p2,dp⟩:∃p2,p2=c-48:=⟨_,rfl⟩;rw[<-dS]at xE;rw[<-dp]at hwc yS;have pr:IntKind.i64.wrap ((p1:Int)+(p2:Int))=((p1+p2:Nat):Int):=by rw[IntWalk.i64_in _ (by omega)];omega
          obtain⟨p3,nI⟩:∃p3,p3=p1+p2:=⟨_,rfl⟩;rw[<-nI]at pr;have HV:Hid (Ez (tx.take (i+1))=p3):=J (by rw[aF.o,<-gJ.o,<-qm.o,nI,dS,dp]);have nh:Hid ((tx.take (i+1)).all (fun c=>Dz c.toNat)=true):=J (by
           rw[cA.o,List.all_append,fQ.o,List.all_cons,List.all_nil,<-gJ.o,<-qm.o];unfold Dz;simp[mT.1,mT.2])
          clear dS dp nI mT;go_wp2_with fail
          go_round
          case rel=>exact⟨i+1,by omega,by rw[HV.o],by go_num,nh⟩
          case measure=>simp[intOf];omega
         ·have i4:Hid (AT (Be ts f) ts a=(none,c1)):=J (ar.o (by
           rw[HI.o];unfold C4;rw[if_neg];intro hh;have h2:=List.all_eq_true.1 hh.2 tx[i] (List.getElem_mem hit);rw[<-gJ.o,<-qm.o]at h2
           revert h2
           decide))
          go_wp2_with fail
          (try simp only[Exit.inBlock,Exit.then])
          first
           |refine bodyPost_ret (results_none rfl _ _ _) rfl ?_
           |refine bodyPost_end (results_none rfl _ _ _) rfl ?_
          have h3:=kZ.o.fail;exact Al.mkN i4.o (iI.o.trans h3.2) h3.1
        ·obtain rfl:i=tx.length:=by omega
         have hal:=fQ.o;rw[List.take_of_length_le (Nat.le_refl _)]at hal;rw[List.take_of_length_le (Nat.le_refl _)];have jg:E5 ts c1=some (Ez tx):=by
          rw[HI.o];unfold C4 Ez;rw[if_pos ⟨hl2,hal⟩]
         have zm:=IX jg;obtain⟨z,hz⟩:∃z:Int,z= -(Ez tx:Int):=⟨_,rfl⟩;have cP:Hid (AT (Be ts f) ts a=(some (.un 10 z x),c1+1)):=J (by
          rw[hz,qo.o];rw[qo.o]at jg;exact NX HR.o mY.o wK.o jg)
         have tZ:Hid (z=(Ez tx:Int)\/z= -(Ez tx:Int)):=J (by omega);generalize Ez tx=dv at *;have bU:IntKind.i64.wrap (-(dv:Int))=z:=by rw[IntWalk.i64_in _ (by omega),hz]
         have aL:IntKind.i64.wrap ((c1:Int)+1)=(c1:Int)+1:=IntWalk.i64_in _ (by omega);clear hal hz jg;go_upto_region 18 with fail;have ai:=kZ.o.stepR hlt2;obtain⟨w7,cU⟩:∃w7,w7=wb.setCell ⟨g,1,none⟩ (.int .i64 ((c1:Int)+1)):=⟨_,rfl⟩;rw[<-cU]at ai ⊢;have iR:=J (iI.o.trans ai.2);have UW:=J ai.1;obtain⟨⟨k0,k1,k2,k3,k4⟩,⟨f1,f2,f3,f4⟩,iK⟩:=ai.1.blk.five';clear ai cU;have cj:Hid (∀q,q=(lgx || decide (64<dv))->q=(lg || (Ex.un 10 z x).big)):=J (fun q hq=>by
          rw[hq,Pd tZ.o,<-Vc.o];cases lg<;>cases x.big<;>simp)
         have mp:∀q:Bool,q=(lgx || decide (64<dv))->Hid (∃w8,w8=w7.setCell ⟨g,4,none⟩ (.bool q)/\RdR g w8 ts (c1+1) false (ns++Ag ns.length x) q _ aZ/\KR g nv aZ w w8):=fun q _=>J (by
          have h:=UW.o.large q;exact⟨_,rfl,h.1,iR.o.trans h.2⟩)
         have kR:(ns++Ag ns.length x).length+1<=c1+1:=by omega
         cases lgx
         ·by_cases hq:64<dv
          ·have rH:decide (64<dv)=true:=decide_eq_true hq;have zc:(64:Int)<(dv:Int):=by omega
           have ic:true=(false || decide (64<dv)):=by rw[rH];rfl
           obtain⟨w8,cN,cK,bJ⟩:=(mp true ic).o;have HQ:=J (cj.o true ic);clear ic;go_upto_region 19 with fail;rw[<-cN];have az:=J (B9 g w8 ts (c1+1) false _ true _ aZ 10 0 z [] cK kR);rw[show str []= .string ⟨#[]⟩ from rfl,EV]at az;have eX:=J bJ;clear cN cK bJ mp k0 k1 k2 k3 k4 f1 f2 f3 f4;go_wp2_with fail;refine az.o.mono ?_
           rintro e w9 ⟨nv2,rfl,bz,jG⟩;have ru:=x.size_pos;have HF:Hid (RdR g w9 ts (c1+1) false (ns++Ag ns.length (.un 10 z x)) (lg || (Ex.un 10 z x).big) _ nv2):=J (jG.as HQ.o (by
            rw[BZ,<-List.append_assoc,Bp,show ((ns.length+x.size-1:Nat):Int)=((ns.length+x.size:Nat):Int)-1 by omega];rfl))
           have eI:=J (eX.o.trans bz);clear bz jG;go_wp2_with fail
           (try simp only[Exit.inBlock,Exit.then])
           first
            |refine bodyPost_ret (results_none rfl _ _ _) rfl ?_
            |refine bodyPost_end (results_none rfl _ _ _) rfl ?_
           exact Al.mkS cP.o eI.o HF.o
          ·have rH:decide (64<dv)=false:=decide_eq_false hq;have zc:¬(64:Int)<(dv:Int):=by omega
           have ic:false=(false || decide (64<dv)):=by rw[rH];rfl
           obtain⟨w8,cN,cK,bJ⟩:=(mp false ic).o;have HQ:=J (cj.o false ic);clear ic;go_upto_region 19 with fail;rw[<-cN];have az:=J (B9 g w8 ts (c1+1) false _ false _ aZ 10 0 z [] cK kR);rw[show str []= .string ⟨#[]⟩ from rfl,EV]at az;have eX:=J bJ;clear cN cK bJ mp k0 k1 k2 k3 k4 f1 f2 f3 f4;go_wp2_with fail;refine az.o.mono ?_
           rintro e w9 ⟨nv2,rfl,bz,jG⟩;have ru:=x.size_pos;have HF:Hid (RdR g w9 ts (c1+1) false (ns++Ag ns.length (.un 10 z x)) (lg || (Ex.un 10 z x).big) _ nv2):=J (jG.as HQ.o (by
            rw[BZ,<-List.append_assoc,Bp,show ((ns.length+x.size-1:Nat):Int)=((ns.length+x.size:Nat):Int)-1 by omega];rfl))
           have eI:=J (eX.o.trans bz);clear bz jG;go_wp2_with fail
           (try simp only[Exit.inBlock,Exit.then])
           first
            |refine bodyPost_ret (results_none rfl _ _ _) rfl ?_
            |refine bodyPost_end (results_none rfl _ _ _) rfl ?_
           exact Al.mkS cP.o eI.o HF.o
         ·have ic:true=(true || decide (64<dv)):=rfl;obtain⟨w8,cN,cK,bJ⟩:=(mp true ic).o;have HQ:=J (cj.o true ic);clear ic;go_upto_region 19 with fail;rw[<-cN];have az:=J (B9 g w8 ts (c1+1) false _ true _ aZ 10 0 z [] cK kR);rw[show str []= .string ⟨#[]⟩ from rfl,EV]at az;have eX:=J bJ;clear cN cK bJ mp k0 k1 k2 k3 k4 f1 f2 f3 f4;go_wp2_with fail;refine az.o.mono ?_
          rintro e w9 ⟨nv2,rfl,bz,jG⟩;have ru:=x.size_pos;have HF:Hid (RdR g w9 ts (c1+1) false (ns++Ag ns.length (.un 10 z x)) (lg || (Ex.un 10 z x).big) _ nv2):=J (jG.as HQ.o (by
           rw[BZ,<-List.append_assoc,Bp,show ((ns.length+x.size-1:Nat):Int)=((ns.length+x.size:Nat):Int)-1 by omega];rfl))
          have eI:=J (eX.o.trans bz);clear bz jG;go_wp2_with fail
          (try simp only[Exit.inBlock,Exit.then])
          first
           |refine bodyPost_ret (results_none rfl _ _ _) rfl ?_
           |refine bodyPost_end (results_none rfl _ _ _) rfl ?_
          exact Al.mkS cP.o eI.o HF.o
      ·have i4:Hid (AT (Be ts f) ts a=(none,c1)):=J (ar.o (by rw[hI];unfold C4;rw[if_neg (fun h=>hl2 h.1)]));have z2:decide (2<tx.length)=true:=decide_eq_true (by omega);have z3:(2:Int)<(tx.length:Int):=by omega
       clear hI hl2;go_wp2_with fail;go_quiet (fail);go_wp2_with fail
       (try simp only[Exit.inBlock,Exit.then])
       first
        |refine bodyPost_ret (results_none rfl _ _ _) rfl ?_
        |refine bodyPost_end (results_none rfl _ _ _) rfl ?_
       have h3:=(bW.o.keep ((Ext.refl w5).drewN nq)).fail;exact Al.mkN i4.o (en.o.trans ((KR.of_ext ((Ext.refl w5).drewN nq)).trans h3.2)) h3.1
     ·have hk2:((tk:Int) != 1)=true:=by rw[bne_iff_ne];omega
      have i4:Hid (AT (Be ts f) ts a=(none,c1)):=J (ar.o (by rw[hI,if_neg hk]));clear hI hk;go_wp2_with fail;go_quiet (fail);go_wp2_with fail
      (try simp only[Exit.inBlock,Exit.then])
      first
       |refine bodyPost_ret (results_none rfl _ _ _) rfl ?_
       |refine bodyPost_end (results_none rfl _ _ _) rfl ?_
      have h3:=(bW.o.keep ((Ext.refl w5).drewN nq)).fail;exact Al.mkN i4.o (en.o.trans ((KR.of_ext ((Ext.refl w5).drewN nq)).trans h3.2)) h3.1
    ·have i4:Hid (AT (Be ts f) ts a=(none,c1)):=J (ar.o (by
      unfold E5;rw[List.getElem?_eq_none (by rw[<-k8.o];exact dU)]))
     have z1:decide (n<=c1)=true:=decide_eq_true dU;have z2:(n:Int)<=(c1:Int):=by omega
     clear b7;go_wp2_with fail;go_quiet (fail);go_wp2_with fail
     (try simp only[Exit.inBlock,Exit.then])
     first
      |refine bodyPost_ret (results_none rfl _ _ _) rfl ?_
      |refine bodyPost_end (results_none rfl _ _ _) rfl ?_
     have h3:=(bW.o.keep ((Ext.refl w5).drewN nq)).fail;exact Al.mkN i4.o (en.o.trans ((KR.of_ext ((Ext.refl w5).drewN nq)).trans h3.2)) h3.1
section
variable {p:Nat->Option Ex × Nat} {ts:List Tok} {a b:Nat} {x:Ex}
theorem Jx(h:isS ts a [45]=false):BH p ts a=AT p ts a:=by
 unfold BH;rw[T1 h,Nat.add_zero];rcases AT p ts a with ⟨_|x,b⟩<;>rfl
theorem Mu(h:isS ts a [45]=true)(hr:BH p ts (a+1)=(none,b)):BH p ts a=(none,b):=by
 unfold BH at hr ⊢;rw[Tc h,show a+(Bc ts ts.length (a+1)+1)=a+1+Bc ts ts.length (a+1) by omega];rcases h2:AT p ts (a+1+Bc ts ts.length (a+1)) with ⟨_|x,b⟩
 ·rw[h2]at hr;exact hr
 ·rw[h2]at hr;simp at hr
theorem Mt(h:isS ts a [45]=true)(hr:BH p ts (a+1)=(some x,b)):BH p ts a=(some (.un 5 0 x),b):=by
 unfold BH at hr ⊢;rw[Tc h,show a+(Bc ts ts.length (a+1)+1)=a+1+Bc ts ts.length (a+1) by omega];rcases h2:AT p ts (a+1+Bc ts ts.length (a+1)) with ⟨_|y,b'⟩
 ·rw[h2]at hr;simp at hr
 ·rw[h2]at hr;simp only[Prod.mk.injEq,Option.some.injEq]at hr ⊢;obtain⟨rfl,rfl⟩:=hr;exact⟨PY _ _,rfl⟩
end
theorem Ry{len:Nat}:EO 5 0 0 len []=⟨5,(len:Int)-1,0,0,[]⟩:=by
 unfold EO;rw[if_pos (by decide)]
theorem Hk{k first:Int}(hk:Ap k=2){len:Nat}:EO k first 0 len []=⟨k,first,(len:Int)-1,0,[]⟩:=by
 unfold EO;rw[if_neg (by rw[hk];decide),if_pos hk]
theorem NN(g:Nat)(ts:List Tok)(tv:Value)(f:Nat)(je:∀t∈ts,B1 t)(d:Nat):∀a,ts.length<=a+d->(∀a',a<a'->Se g ts tv f a')->∀(w:World) (ns:List Nd) (lg:Bool) (nv:Value),RdR g w ts a false ns lg tv nv->
  Calls Tryz.prog 172 #[.pointer (some ⟨g,0,none⟩)] w (Al g ts tv ns nv lg (BH (Be ts f) ts a) w):=by
 induction d with
 |zero=>
  intro a qK hs w ns lg nv h;have hz:isS ts a [45]=false:=by
   unfold isS;rw[List.getElem?_eq_none (by omega)]
  have HM:=J (Jx (p:=Be ts f) hz);have lT:=J (CX g w ts a false ns lg tv nv [45] h);rw[show str [45]= .string ⟨#[45]⟩ from rfl,hz]at lT;simp only[Bool.and_false]at lT;have UY:=J (fun W h=>Jj g ts tv f a je hs W ns lg nv h);have HR:=J h;clear h hs hz qK je;go_enter Tryz.func172,Tryz.ntmps172;go_wp2_with fail;refine lT.o.mono ?_
  rintro e w2 ⟨rfl,hd⟩;have HE:=J (And.intro (HR.o.keep hd.ext) (KR.of_ext (g:=g) (nv:=nv) hd.ext));clear hd;go_wp2_with fail;refine(UY.o w2 HE.o.1).mono ?_
  rintro e w3 ak;obtain⟨rfl,pp,dG,hm⟩:=ak;have UZ:Hid (Al g ts tv ns nv lg (BH (Be ts f) ts a) w (.returned (.tuple #[])) w3):=J (by
   rw[HM.o];exact⟨rfl,pp,HE.o.2.trans dG,hm⟩)
  clear dG hm;go_wp2_with fail
  (try simp only[Exit.inBlock,Exit.then])
  first
   |refine bodyPost_ret (results_none rfl _ _ _) rfl ?_
   |refine bodyPost_end (results_none rfl _ _ _) rfl ?_
  exact UZ.o
 |succ d ih=>
  intro a qK hs w ns lg nv h;have lT:=J (CX g w ts a false ns lg tv nv [45] h);rw[show str [45]= .string ⟨#[45]⟩ from rfl]at lT;simp only[Bool.not_false,Bool.true_and]at lT;have HR:=J h;have dn:=J je;obtain⟨u,hz⟩:∃u,isS ts a [45]=u:=⟨_,rfl⟩;rw[hz]at lT;cases u
  ·have HM:=J (Jx (p:=Be ts f) hz);have UY:=J (fun W h=>Jj g ts tv f a je hs W ns lg nv h);clear h hs hz qK je ih;go_enter Tryz.func172,Tryz.ntmps172;go_wp2_with fail;refine lT.o.mono ?_
   rintro e w2 ⟨rfl,hd⟩;have HE:=J (And.intro (HR.o.keep hd.ext) (KR.of_ext (g:=g) (nv:=nv) hd.ext));clear hd;go_wp2_with fail;refine(UY.o w2 HE.o.1).mono ?_
   rintro e w3 ak;obtain⟨rfl,pp,dG,hm⟩:=ak;have UZ:Hid (Al g ts tv ns nv lg (BH (Be ts f) ts a) w (.returned (.tuple #[])) w3):=J (by
    rw[HM.o];exact⟨rfl,pp,HE.o.2.trans dG,hm⟩)
   clear dG hm;go_wp2_with fail
   (try simp only[Exit.inBlock,Exit.then])
   first
    |refine bodyPost_ret (results_none rfl _ _ _) rfl ?_
    |refine bodyPost_end (results_none rfl _ _ _) rfl ?_
   exact UZ.o
  ·have hlt:=Cj hz;have fp:=h.max;have q6:=J (ih (a+1) (by omega) (fun a' h'=>hs a' (by omega)));have fB:=FN (Em ts f) (a+1) hlt;have HZ:=J hz;have xE:IntKind.i64.wrap ((a:Int)+1)=(a:Int)+1:=IntWalk.i64_in _ (by omega);clear h hs hz qK je ih;go_enter Tryz.func172,Tryz.ntmps172;go_wp2_with fail;refine lT.o.mono ?_
   rintro e w2 ⟨rfl,hd⟩;have hr2:=HR.o.keep hd.ext;have eN:=J hr2;have gU:=J (KR.of_ext (g:=g) (nv:=nv) hd.ext);obtain⟨⟨k0,k1,k2,k3,k4⟩,⟨f1,f2,f3,f4⟩,jO⟩:=hr2.blk.five';clear hd hr2;go_upto_region 2 with fail;have ai:=eN.o.stepR hlt;obtain⟨w3,bf⟩:∃w3,w3=w2.setCell ⟨g,1,none⟩ (.int .i64 ((a:Int)+1)):=⟨_,rfl⟩;rw[<-bf]at ai ⊢;have bE:=J (gU.o.trans ai.2);have pm:=J (q6.o w3 ns lg nv ai.1);clear ai bf k0 k1 k2 k3 k4 f1 f2 f3 f4;go_wp2_with fail;refine pm.o.mono ?_
   intro e w4 ak;obtain⟨r,hr⟩:∃r,BH (Be ts f) ts (a+1)=r:=⟨_,rfl⟩;rw[hr]at fB;obtain⟨_|x,b⟩:=r
   ·obtain⟨rfl,mN,ns4,lg4,aS,hk⟩:=ak.none_ hr;have HD:=J (Mu HZ.o hr);have HE:=J (And.intro (bE.o.trans hk) aS);obtain⟨⟨k0,k1,k2,k3,k4⟩,⟨f1,f2,f3,f4⟩,qG⟩:=aS.blk.five';clear ak hr aS hk fB;go_wp2_with fail
    (try simp only[Exit.inBlock,Exit.then])
    first
     |refine bodyPost_ret (results_none rfl _ _ _) rfl ?_
     |refine bodyPost_end (results_none rfl _ _ _) rfl ?_
    exact Al.mkN HD.o HE.o.1 HE.o.2
   ·obtain⟨rfl,mN,aS,hk⟩:=ak.some_ hr;have ft:=fB.2.2 x rfl;have fH:=fB.2.1;simp only at ft fH;have HD:=J (Mt HZ.o hr);have ei:=J (bE.o.trans hk);have vx:(ns++Ag ns.length x).length+1<=b:=by have:=HR.o.few;rw[Bp];omega
    have az:=J (B9 g w4 ts b false _ _ tv mN 5 0 0 [] aS vx);rw[show str []= .string ⟨#[]⟩ from rfl,Ry]at az;obtain⟨⟨k0,k1,k2,k3,k4⟩,⟨f1,f2,f3,f4⟩,qG⟩:=aS.blk.five';clear ak hr aS hk fB vx;go_wp2_with fail;refine az.o.mono ?_
    rintro e w5 ⟨xC,rfl,eK,cm⟩;have ru:=x.size_pos;have hbg:(lg || x.big)=(lg || (Ex.un 5 0 x).big):=by rw[Ex.big];rfl
    have HF:Hid (RdR g w5 ts b false (ns++Ag ns.length (.un 5 0 x)) (lg || (Ex.un 5 0 x).big) tv xC):=J (cm.as hbg (by
     rw[BZ,<-List.append_assoc,Bp,show ((ns.length+x.size-1:Nat):Int)=((ns.length+x.size:Nat):Int)-1 by omega];rfl))
    have en:=J (ei.o.trans eK);clear eK cm hbg;go_wp2_with fail
    (try simp only[Exit.inBlock,Exit.then])
    first
     |refine bodyPost_ret (results_none rfl _ _ _) rfl ?_
     |refine bodyPost_end (results_none rfl _ _ _) rfl ?_
    exact Al.mkS HD.o en.o HF.o
structure LX (g:Nat) (ts:List Tok) (tv:Value) (ns:List Nd) (nv:Value) (lg:Bool) (w:World) (C:Option Ex × Nat) (op:Nat->Option Ex × Nat) (s1 s2:List UInt8) (k1 k2 a f b:Nat) (x:Ex) (nv':Value) (wr:World):Prop where
 rd:RdR g wr ts b false (ns++Ag ns.length x) (lg || x.big) tv nv'
 kr:KR g nv nv' w wr
 eq:C=By op ts s1 s2 k1 k2 f x b
 fuel:ts.length<=b+f
 lo:a<=b
 sz:ns.length+x.size<=b
theorem LX.next {g:Nat} {ts:List Tok} {tv nv aZ nv2 pp mN:Value} {ns:List Nd} {lg:Bool} {w wr w1 w2 w3:World} {C:Option Ex × Nat} {op:Nat->Option Ex × Nat} {s1 s2:List UInt8} {k1 k2 a f b b' k n1 n2:Nat} {x y:Ex}
  (h:LX g ts tv ns nv lg w C op s1 s2 k1 k2 a f b x aZ wr) (hc:C=By op ts s1 s2 k1 k2 (f-1) (.bin k x y) b') (hb:b+1+y.size<=b') (hr:RdR g w3 ts b' false (((ns++Ag ns.length x)++Ag (ns++Ag ns.length x).length y)++[⟨(k:Int),(n1:Int)-1,(n2:Int)-1,0,[]⟩]) ((lg || x.big) || y.big) tv mN)
  (dT:n1=(ns++Ag ns.length x).length) (hn2:n2=((ns++Ag ns.length x)++Ag (ns++Ag ns.length x).length y).length)
  (fg:KR g aZ nv2 wr w1) (hk2:KR g nv2 pp w1 w2) (dG:KR g pp mN w2 w3):LX g ts tv ns nv lg w C op s1 s2 k1 k2 a (f-1) b' (.bin k x y) mN w3:=by
 subst dT;subst hn2;have hx:=x.size_pos;have hy:=y.size_pos;have h1:=h.fuel;have h2:=h.lo;have h3:=h.sz;refine⟨?_,((h.kr.trans fg).trans hk2).trans dG,hc,by omega,by omega,by rw[Ex.size];omega⟩;refine hr.as (by rw[Ex.big,Bool.or_assoc]) ?_
 rw[RP];have e1:(ns++Ag ns.length x).length=ns.length+x.size:=Bp;rw[e1];have e2:((ns++Ag ns.length x)++Ag (ns.length+x.size) y).length=ns.length+x.size+y.size:=by rw[List.length_append,e1,AF]
 rw[e2];rw[show ((ns.length+x.size-1:Nat):Int)=((ns.length+x.size:Nat):Int)-1 by omega,show ((ns.length+x.size+y.size-1:Nat):Int)=((ns.length+x.size+y.size:Nat):Int)-1 by omega];simp only[List.append_assoc]
def LoR(g:Nat)(ts:List Tok)(tv:Value)(ns:List Nd)(nv:Value)(lg:Bool)(w:World)(C:Option Ex × Nat)(op:Nat->Option Ex × Nat)(s1 s2:List UInt8)(k1 k2 a:Nat)(b:Nat)(wr:World):Prop:=
 (C=(none,b)/\∃nv' ns' lg',RdR g wr ts b true ns' lg' tv nv'/\KR g nv nv' w wr)\/∃f x nv',LX g ts tv ns nv lg w C op s1 s2 k1 k2 a f b x nv' wr
theorem O0{ts:List Tok}{b:Nat}{c d:List UInt8}(h:isS ts b c=true)(xP:(c == d)=false):isS ts b d=false:=by
 unfold isS at h ⊢;cases h2:ts[b]? with
 |none=>rfl
 |some t=>
  rw[h2]at h;simp only[Bool.and_eq_true,beq_iff_eq]at h;simp only[h.2,xP,Bool.and_false]
theorem Lq(g:Nat)(ts:List Tok)(tv:Value)(f a:Nat)(je:∀t∈ts,B1 t)(hs:∀a',a<a'->Se g ts tv f a')(w:World)(ns:List Nd)(lg:Bool)(nv:Value)(h:RdR g w ts a false ns lg tv nv):
  Calls Tryz.prog 128 #[.pointer (some ⟨g,0,none⟩)] w (Al g ts tv ns nv lg (Gu (Be ts f) ts a) w):=by
 have aK:Hid (∀a',a<=a'->∀w ns lg nv,RdR g w ts a' false ns lg tv nv->Calls Tryz.prog 172 #[.pointer (some ⟨g,0,none⟩)] w (Al g ts tv ns nv lg (BH (Be ts f) ts a') w)):=
  J (fun a' ha w ns lg nv h=>NN g ts tv f je ts.length a' (by omega) (fun b hb=>hs b (by omega)) w ns lg nv h)
 have HG:=J (FN (Em ts f));obtain⟨C,hC⟩:∃C,Db (BH (Be ts f) ts) ts [42] [47] 8 9 a=C:=⟨_,rfl⟩;rw[show Gu (Be ts f) ts a=Db (BH (Be ts f) ts) ts [42] [47] 8 9 a from rfl,hC];generalize BH (Be ts f) ts=op at *;clear hs je;have dC:=J (fun W a bad ns lg nv h=>CX g W ts a bad ns lg tv nv [42] h);have eY:=J (fun W a bad ns lg nv h=>CX g W ts a bad ns lg tv nv [47] h);rw[show str [42]= .string ⟨#[42]⟩ from rfl]at dC;rw[show str [47]= .string ⟨#[47]⟩ from rfl]at eY;have hle:=h.le;have fp:=h.max;have hfew:=h.few;have HC:Hid (∀r,op a=r->C=match r with|(none,b)=>(none,b)|(some x,b)=>By op ts [42] [47] 8 9 ts.length x b):=J (fun r hr=>by rw[<-hC];unfold Db;rw[hr]<;>(obtain⟨_|x,b⟩:=r<;>rfl));have fB:=HG.o a hle;have HO:=J (aK.o a (Nat.le_refl _) w ns lg nv h);clear h hC;go_enter Tryz.func128,Tryz.ntmps128;go_wp2_with fail;refine HO.o.mono ?_
 intro e w3 ak;have ai:e= .returned (.tuple #[])/\∃b,LoR g ts tv ns nv lg w C op [42] [47] 8 9 a b w3:=by
  obtain⟨r,hr⟩:∃r,op a=r:=⟨_,rfl⟩;have hC:=HC.o r hr;rw[hr]at fB;obtain⟨_|x,b⟩:=r
  ·obtain⟨rfl,aZ,ko,kp,aS,hk⟩:=ak.none_ hr;exact⟨rfl,b,.inl ⟨hC,aZ,ko,kp,aS,hk⟩⟩
  ·obtain⟨rfl,aZ,aS,hk⟩:=ak.some_ hr;have vu:=fB.2.2 x rfl;have fH:=fB.1;simp only at vu fH;exact⟨rfl,b,.inr ⟨ts.length,x,aZ,aS,hk,hC,by omega,fH,by omega⟩⟩
 obtain⟨rfl,b0,lC⟩:=ai;have lQ:=J lC;clear ak lC fB HO HC;go_wp2_with fail
 go_loopg [] (ts.length-b0) (fun gh wr=>∃b,gh=ts.length-b/\LoR g ts tv ns nv lg w C op [42] [47] 8 9 a b wr)
 case atStart=>exact⟨b0,rfl,lQ.o⟩
 case round=>
  obtain⟨b,iD,⟨pb,aZ,ko,kp,aS,vk⟩|⟨ot,x,aZ,aJ⟩⟩:=hrel
  ·have HE:=J (And.intro vk aS);have xy:=J pb;have aM:=J (dC.o wr b true ko kp aZ aS);simp only[Bool.not_true,Bool.false_and]at aM;clear iD pb aS vk lQ;go_wp2_with fail;refine aM.o.mono ?_
   rintro e w4 ⟨rfl,hd⟩;have iA:=J (And.intro (HE.o.1.trans (KR.of_ext hd.ext)) (HE.o.2.keep hd.ext));have aP:=J (eY.o w4 b true ko kp aZ iA.o.2);simp only[Bool.not_true,Bool.false_and]at aP;clear hd;go_wp2_with fail;refine aP.o.mono ?_
   rintro e w5 ⟨rfl,hd⟩;have lW:=J (And.intro (iA.o.1.trans (KR.of_ext hd.ext)) (iA.o.2.keep hd.ext));clear hd;go_wp2_with fail
   (try simp only[Exit.inBlock,Exit.then])
   first
    |refine bodyPost_ret (results_none rfl _ _ _) rfl ?_
    |refine bodyPost_end (results_none rfl _ _ _) rfl ?_
   exact Al.mkN xy.o lW.o.1 lW.o.2
  ·have fl:=J iD;have HI:=J aJ;have ah:=J (dC.o wr b false _ _ aZ aJ.rd);simp only[Bool.not_false,Bool.true_and]at ah;have fh:=aJ.rd.le;have Ue:=aJ.fuel;clear iD aJ lQ;obtain⟨u1,dR⟩:∃u,isS ts b [42]=u:=⟨_,rfl⟩;rw[dR]at ah;cases u1
   ·go_wp2_with fail;refine ah.o.mono ?_
    rintro e yp ⟨rfl,hd⟩;have bE:=J (KR.of_ext (g:=g) (nv:=aZ) hd.ext);have eE:=J (HI.o.rd.keep hd.ext);have aq:=J (eY.o yp b false _ _ aZ eE.o);simp only[Bool.not_false,Bool.true_and]at aq;clear hd;obtain⟨u2,dF⟩:∃u,isS ts b [47]=u:=⟨_,rfl⟩;rw[dF]at aq;cases u2
    ·have dV:Hid (C=(some x,b)):=J (by rw[HI.o.eq,Fp ot dR dF]);go_wp2_with fail;refine aq.o.mono ?_
     rintro e w4 ⟨rfl,hd⟩;have HE:=J (And.intro ((HI.o.kr.trans bE.o).trans (KR.of_ext hd.ext)) (eE.o.keep hd.ext));clear hd;go_wp2_with fail
     (try simp only[Exit.inBlock,Exit.then])
     first
      |refine bodyPost_ret (results_none rfl _ _ _) rfl ?_
      |refine bodyPost_end (results_none rfl _ _ _) rfl ?_
     exact Al.mkS dV.o HE.o.1 HE.o.2
    ·have ij:=Cj dF;have hwb:IntKind.i64.wrap ((b:Int)+1)=(b:Int)+1:=IntWalk.i64_in _ (by omega);go_wp2_with fail;refine aq.o.mono ?_
     rintro e w4 ⟨rfl,hd⟩;have ei:=J (bE.o.trans (KR.of_ext hd.ext));have dA:=J (eE.o.keep hd.ext);have aE:=J (eY.o w4 b false _ _ aZ dA.o);simp only[Bool.not_false,Bool.true_and]at aE;rw[dF]at aE;clear hd;go_wp2_with fail;refine aE.o.mono ?_
     rintro e w5 ⟨rfl,hd⟩;have cm:=dA.o.keep hd.ext;have bW:=J cm;have en:=J (ei.o.trans (KR.of_ext hd.ext));obtain⟨A2,c2,rfl⟩:=cm.row.shape;obtain⟨n1,dT⟩:∃n1,n1=(ns++Ag ns.length x).length:=⟨_,rfl⟩;obtain⟨⟨k0,k1,k2,k3,k4⟩,⟨f1,f2,f3,f4⟩,fT⟩:=cm.blk.five';have ja:1<=n1:=by rw[dT,Bp];have:=x.size_pos;omega
     have nX:n1<=b:=by rw[dT];exact cm.few
     rw[<-dT]at k3;have gH:=J dT;have ur:IntKind.i64.wrap ((n1:Int)-1)=(n1:Int)-1:=IntWalk.i64_in _ (by omega);clear hd cm dT;go_upto_region 7 with fail;have ai:=bW.o.stepR ij;obtain⟨w6,cH⟩:∃w6,w6=w5.setCell ⟨g,1,none⟩ (.int .i64 ((b:Int)+1)):=⟨_,rfl⟩;rw[<-cH]at ai ⊢;have bT:=J (en.o.trans ai.2);have el:=J (aK.o (b+1) (by have:=HI.o.lo;omega) w6 _ _ _ ai.1);have cw:=HG.o (b+1) ij;obtain⟨r,hr⟩:∃r,op (b+1)=r:=⟨_,rfl⟩;have i6:Hid (C=Ic op ts [42] [47] 8 9 (ot-1) 9 x r):=J (by rw[HI.o.eq,II (by omega) dR dF,hr]);rw[hr]at cw;clear ai cH k0 k1 k2 k3 k4 f1 f2 f3 f4;go_wp2_with fail;refine el.o.mono ?_
     intro e w7 ak;obtain⟨_|y,b'⟩:=r
     ·obtain⟨rfl,kI,rl,ro,aS,hk⟩:=ak.none_ hr;have fH:=cw.1;simp only at fH;have fJ:=cw.2.1;simp only at fJ;have HF:Hid (LoR g ts tv ns nv lg w C op [42] [47] 8 9 a b' w7):=J (.inl ⟨i6.o,kI,rl,ro,aS,(HI.o.kr.trans bT.o).trans hk⟩);obtain⟨⟨k0,k1,k2,k3,k4⟩,⟨f1,f2,f3,f4⟩,iK⟩:=aS.blk.five';clear ak hr aS hk cw;go_wp2_with fail
      go_roundg (ts.length-b')
      case rel=>exact⟨b',rfl,HF.o⟩
      case measure=>rw[fl.o];omega
     ·obtain⟨rfl,kI,aS,hk⟩:=ak.some_ hr;have l7:=cw.2.2 y rfl;have fJ:=cw.2.1;simp only at l7 fJ;have iR:=J hk;have io:((ns++Ag ns.length x)++Ag (ns++Ag ns.length x).length y).length+1<=b':=by have:=HI.o.sz;rw[Bp,Bp];omega
      have az:=J (B9 g w7 ts b' false _ _ tv kI 9 ((n1:Int)-1) 0 [] aS io);rw[show str []= .string ⟨#[]⟩ from rfl,Hk (by decide)]at az;obtain⟨n2,hn2⟩:∃n2,n2=((ns++Ag ns.length x)++Ag (ns++Ag ns.length x).length y).length:=⟨_,rfl⟩;rw[<-hn2]at az;have dM:=J hn2;obtain⟨⟨k0,k1,k2,k3,k4⟩,⟨f1,f2,f3,f4⟩,iK⟩:=aS.blk.five';clear ak hr aS hk cw hn2 io;go_wp2_with fail;refine az.o.mono ?_
      rintro e w8 ⟨nk,rfl,bJ,cK⟩;have HF:Hid (LoR g ts tv ns nv lg w C op [42] [47] 8 9 a b' w8):=J (.inr ⟨ot-1,.bin 9 x y,nk,HI.o.next i6.o l7 cK gH.o dM.o bT.o iR.o bJ⟩);clear bJ cK;go_wp2_with fail
      go_roundg (ts.length-b')
      case rel=>exact⟨b',rfl,HF.o⟩
      case measure=>rw[fl.o];omega
   ·have ij:=Cj dR;have hwb:IntKind.i64.wrap ((b:Int)+1)=(b:Int)+1:=IntWalk.i64_in _ (by omega);have dF:=O0 (d:=[47]) dR (by decide);go_wp2_with fail;refine ah.o.mono ?_
    rintro e w4 ⟨rfl,hd⟩;have ei:=J (KR.of_ext (g:=g) (nv:=aZ) hd.ext);have dA:=J (HI.o.rd.keep hd.ext);have aE:=J (eY.o w4 b false _ _ aZ dA.o);simp only[Bool.not_false,Bool.true_and]at aE;rw[dF]at aE;clear hd;go_wp2_with fail;refine aE.o.mono ?_
    rintro e w5 ⟨rfl,hd⟩;have cm:=dA.o.keep hd.ext;have bW:=J cm;have en:=J (ei.o.trans (KR.of_ext hd.ext));obtain⟨A2,c2,rfl⟩:=cm.row.shape;obtain⟨n1,dT⟩:∃n1,n1=(ns++Ag ns.length x).length:=⟨_,rfl⟩;obtain⟨⟨k0,k1,k2,k3,k4⟩,⟨f1,f2,f3,f4⟩,fT⟩:=cm.blk.five';have ja:1<=n1:=by rw[dT,Bp];have:=x.size_pos;omega
    have nX:n1<=b:=by rw[dT];exact cm.few
    rw[<-dT]at k3;have gH:=J dT;have ur:IntKind.i64.wrap ((n1:Int)-1)=(n1:Int)-1:=IntWalk.i64_in _ (by omega);clear hd cm dT;go_upto_region 7 with fail;have ai:=bW.o.stepR ij;obtain⟨w6,cH⟩:∃w6,w6=w5.setCell ⟨g,1,none⟩ (.int .i64 ((b:Int)+1)):=⟨_,rfl⟩;rw[<-cH]at ai ⊢;have bT:=J (en.o.trans ai.2);have el:=J (aK.o (b+1) (by have:=HI.o.lo;omega) w6 _ _ _ ai.1);have cw:=HG.o (b+1) ij;obtain⟨r,hr⟩:∃r,op (b+1)=r:=⟨_,rfl⟩;have i6:Hid (C=Ic op ts [42] [47] 8 9 (ot-1) 8 x r):=J (by rw[HI.o.eq,IJ (by omega) dR,hr]);rw[hr]at cw;clear ai cH k0 k1 k2 k3 k4 f1 f2 f3 f4;go_wp2_with fail;refine el.o.mono ?_
    intro e w7 ak;obtain⟨_|y,b'⟩:=r
    ·obtain⟨rfl,kI,rl,ro,aS,hk⟩:=ak.none_ hr;have fH:=cw.1;simp only at fH;have fJ:=cw.2.1;simp only at fJ;have HF:Hid (LoR g ts tv ns nv lg w C op [42] [47] 8 9 a b' w7):=J (.inl ⟨i6.o,kI,rl,ro,aS,(HI.o.kr.trans bT.o).trans hk⟩);obtain⟨⟨k0,k1,k2,k3,k4⟩,⟨f1,f2,f3,f4⟩,iK⟩:=aS.blk.five';clear ak hr aS hk cw;go_wp2_with fail
     go_roundg (ts.length-b')
     case rel=>exact⟨b',rfl,HF.o⟩
     case measure=>rw[fl.o];omega
    ·obtain⟨rfl,kI,aS,hk⟩:=ak.some_ hr;have l7:=cw.2.2 y rfl;have fJ:=cw.2.1;simp only at l7 fJ;have iR:=J hk;have io:((ns++Ag ns.length x)++Ag (ns++Ag ns.length x).length y).length+1<=b':=by have:=HI.o.sz;rw[Bp,Bp];omega
     have az:=J (B9 g w7 ts b' false _ _ tv kI 8 ((n1:Int)-1) 0 [] aS io);rw[show str []= .string ⟨#[]⟩ from rfl,Hk (by decide)]at az;obtain⟨n2,hn2⟩:∃n2,n2=((ns++Ag ns.length x)++Ag (ns++Ag ns.length x).length y).length:=⟨_,rfl⟩;rw[<-hn2]at az;have dM:=J hn2;obtain⟨⟨k0,k1,k2,k3,k4⟩,⟨f1,f2,f3,f4⟩,iK⟩:=aS.blk.five';clear ak hr aS hk cw hn2 io;go_wp2_with fail;refine az.o.mono ?_
     rintro e w8 ⟨nk,rfl,bJ,cK⟩;have HF:Hid (LoR g ts tv ns nv lg w C op [42] [47] 8 9 a b' w8):=J (.inr ⟨ot-1,.bin 8 x y,nk,HI.o.next i6.o l7 cK gH.o dM.o bT.o iR.o bJ⟩);clear bJ cK;go_wp2_with fail
     go_roundg (ts.length-b')
     case rel=>exact⟨b',rfl,HF.o⟩
     case measure=>rw[fl.o];omega
theorem Rb(g:Nat)(ts:List Tok)(tv:Value)(je:∀t∈ts,B1 t)(f:Nat):∀a,ts.length<a+f->Se g ts tv f a:=by
 induction f with
 |zero=>intro a ha w ns lg nv h;have:=h.le;omega
 |succ f ih=>
  intro a ha w ns lg nv h;have aK:Hid (∀a',a<=a'->∀w ns lg nv,RdR g w ts a' false ns lg tv nv->Calls Tryz.prog 128 #[.pointer (some ⟨g,0,none⟩)] w (Al g ts tv ns nv lg (Gu (Be ts f) ts a') w)):=
   J (fun a' ha w ns lg nv h=>Lq g ts tv f a' je (fun b hb=>ih b (by omega)) w ns lg nv h)
  have HG:=J (Jw (Em ts f));obtain⟨C,hC⟩:∃C,Db (Gu (Be ts f) ts) ts [43] [45] 6 7 a=C:=⟨_,rfl⟩;rw[show Be ts (f+1) a=Db (Gu (Be ts f) ts) ts [43] [45] 6 7 a from rfl,hC];generalize Gu (Be ts f) ts=op at *;clear ih je ha;have dC:=J (fun W a bad ns lg nv h=>CX g W ts a bad ns lg tv nv [43] h);have eY:=J (fun W a bad ns lg nv h=>CX g W ts a bad ns lg tv nv [45] h);rw[show str [43]= .string ⟨#[43]⟩ from rfl]at dC;rw[show str [45]= .string ⟨#[45]⟩ from rfl]at eY;have hle:=h.le;have fp:=h.max;have hfew:=h.few;have HC:Hid (∀r,op a=r->C=match r with|(none,b)=>(none,b)|(some x,b)=>By op ts [43] [45] 6 7 ts.length x b):=J (fun r hr=>by rw[<-hC];unfold Db;rw[hr]<;>(obtain⟨_|x,b⟩:=r<;>rfl));have fB:=HG.o a hle;have HO:=J (aK.o a (Nat.le_refl _) w ns lg nv h);clear h hC;go_enter Tryz.func66,Tryz.ntmps66;go_wp2_with fail;refine HO.o.mono ?_
  intro e w3 ak;have ai:e= .returned (.tuple #[])/\∃b,LoR g ts tv ns nv lg w C op [43] [45] 6 7 a b w3:=by
   obtain⟨r,hr⟩:∃r,op a=r:=⟨_,rfl⟩;have hC:=HC.o r hr;rw[hr]at fB;obtain⟨_|x,b⟩:=r
   ·obtain⟨rfl,aZ,ko,kp,aS,hk⟩:=ak.none_ hr;exact⟨rfl,b,.inl ⟨hC,aZ,ko,kp,aS,hk⟩⟩
   ·obtain⟨rfl,aZ,aS,hk⟩:=ak.some_ hr;have vu:=fB.2.2 x rfl;have fH:=fB.1;simp only at vu fH;exact⟨rfl,b,.inr ⟨ts.length,x,aZ,aS,hk,hC,by omega,fH,by omega⟩⟩
  obtain⟨rfl,b0,lC⟩:=ai;have lQ:=J lC;clear ak lC fB HO HC;go_wp2_with fail
  go_loopg [] (ts.length-b0) (fun gh wr=>∃b,gh=ts.length-b/\LoR g ts tv ns nv lg w C op [43] [45] 6 7 a b wr)
  case atStart=>exact⟨b0,rfl,lQ.o⟩
  case round=>
   obtain⟨b,iD,⟨pb,aZ,ko,kp,aS,vk⟩|⟨ot,x,aZ,aJ⟩⟩:=hrel
   ·have HE:=J (And.intro vk aS);have xy:=J pb;have aM:=J (dC.o wr b true ko kp aZ aS);simp only[Bool.not_true,Bool.false_and]at aM;clear iD pb aS vk lQ;go_wp2_with fail;refine aM.o.mono ?_
    rintro e w4 ⟨rfl,hd⟩;have iA:=J (And.intro (HE.o.1.trans (KR.of_ext hd.ext)) (HE.o.2.keep hd.ext));have aP:=J (eY.o w4 b true ko kp aZ iA.o.2);simp only[Bool.not_true,Bool.false_and]at aP;clear hd;go_wp2_with fail;refine aP.o.mono ?_
    rintro e w5 ⟨rfl,hd⟩;have lW:=J (And.intro (iA.o.1.trans (KR.of_ext hd.ext)) (iA.o.2.keep hd.ext));clear hd;go_wp2_with fail
    (try simp only[Exit.inBlock,Exit.then])
    first
     |refine bodyPost_ret (results_none rfl _ _ _) rfl ?_
     |refine bodyPost_end (results_none rfl _ _ _) rfl ?_
    exact Al.mkN xy.o lW.o.1 lW.o.2
   ·have fl:=J iD;have HI:=J aJ;have ah:=J (dC.o wr b false _ _ aZ aJ.rd);simp only[Bool.not_false,Bool.true_and]at ah;have fh:=aJ.rd.le;have Ue:=aJ.fuel;clear iD aJ lQ;obtain⟨u1,dR⟩:∃u,isS ts b [43]=u:=⟨_,rfl⟩;rw[dR]at ah;cases u1
    ·go_wp2_with fail;refine ah.o.mono ?_
     rintro e yp ⟨rfl,hd⟩;have bE:=J (KR.of_ext (g:=g) (nv:=aZ) hd.ext);have eE:=J (HI.o.rd.keep hd.ext);have aq:=J (eY.o yp b false _ _ aZ eE.o);simp only[Bool.not_false,Bool.true_and]at aq;clear hd;obtain⟨u2,dF⟩:∃u,isS ts b [45]=u:=⟨_,rfl⟩;rw[dF]at aq;cases u2
     ·have dV:Hid (C=(some x,b)):=J (by rw[HI.o.eq,Fp ot dR dF]);go_wp2_with fail;refine aq.o.mono ?_
      rintro e w4 ⟨rfl,hd⟩;have HE:=J (And.intro ((HI.o.kr.trans bE.o).trans (KR.of_ext hd.ext)) (eE.o.keep hd.ext));clear hd;go_wp2_with fail
      (try simp only[Exit.inBlock,Exit.then])
      first
       |refine bodyPost_ret (results_none rfl _ _ _) rfl ?_
       |refine bodyPost_end (results_none rfl _ _ _) rfl ?_
      exact Al.mkS dV.o HE.o.1 HE.o.2
     ·have ij:=Cj dF;have hwb:IntKind.i64.wrap ((b:Int)+1)=(b:Int)+1:=IntWalk.i64_in _ (by omega);go_wp2_with fail;refine aq.o.mono ?_
      rintro e w4 ⟨rfl,hd⟩;have ei:=J (bE.o.trans (KR.of_ext hd.ext));have dA:=J (eE.o.keep hd.ext);have aE:=J (eY.o w4 b false _ _ aZ dA.o);simp only[Bool.not_false,Bool.true_and]at aE;rw[dF]at aE;clear hd;go_wp2_with fail;refine aE.o.mono ?_
      rintro e w5 ⟨rfl,hd⟩;have cm:=dA.o.keep hd.ext;have bW:=J cm;have en:=J (ei.o.trans (KR.of_ext hd.ext));obtain⟨A2,c2,rfl⟩:=cm.row.shape;obtain⟨n1,dT⟩:∃n1,n1=(ns++Ag ns.length x).length:=⟨_,rfl⟩;obtain⟨⟨k0,k1,k2,k3,k4⟩,⟨f1,f2,f3,f4⟩,fT⟩:=cm.blk.five';have ja:1<=n1:=by rw[dT,Bp];have:=x.size_pos;omega
      have nX:n1<=b:=by rw[dT];exact cm.few
      rw[<-dT]at k3;have gH:=J dT;have ur:IntKind.i64.wrap ((n1:Int)-1)=(n1:Int)-1:=IntWalk.i64_in _ (by omega);clear hd cm dT;go_upto_region 7 with fail;have ai:=bW.o.stepR ij;obtain⟨w6,cH⟩:∃w6,w6=w5.setCell ⟨g,1,none⟩ (.int .i64 ((b:Int)+1)):=⟨_,rfl⟩;rw[<-cH]at ai ⊢;have bT:=J (en.o.trans ai.2);have el:=J (aK.o (b+1) (by have:=HI.o.lo;omega) w6 _ _ _ ai.1);have cw:=HG.o (b+1) ij;obtain⟨r,hr⟩:∃r,op (b+1)=r:=⟨_,rfl⟩;have i6:Hid (C=Ic op ts [43] [45] 6 7 (ot-1) 7 x r):=J (by rw[HI.o.eq,II (by omega) dR dF,hr]);rw[hr]at cw;clear ai cH k0 k1 k2 k3 k4 f1 f2 f3 f4;go_wp2_with fail;refine el.o.mono ?_
      intro e w7 ak;obtain⟨_|y,b'⟩:=r
      ·obtain⟨rfl,kI,rl,ro,aS,hk⟩:=ak.none_ hr;have fH:=cw.1;simp only at fH;have fJ:=cw.2.1;simp only at fJ;have HF:Hid (LoR g ts tv ns nv lg w C op [43] [45] 6 7 a b' w7):=J (.inl ⟨i6.o,kI,rl,ro,aS,(HI.o.kr.trans bT.o).trans hk⟩);obtain⟨⟨k0,k1,k2,k3,k4⟩,⟨f1,f2,f3,f4⟩,iK⟩:=aS.blk.five';clear ak hr aS hk cw;go_wp2_with fail
       go_roundg (ts.length-b')
       case rel=>exact⟨b',rfl,HF.o⟩
       case measure=>rw[fl.o];omega
      ·obtain⟨rfl,kI,aS,hk⟩:=ak.some_ hr;have l7:=cw.2.2 y rfl;have fJ:=cw.2.1;simp only at l7 fJ;have iR:=J hk;have io:((ns++Ag ns.length x)++Ag (ns++Ag ns.length x).length y).length+1<=b':=by have:=HI.o.sz;rw[Bp,Bp];omega
       have az:=J (B9 g w7 ts b' false _ _ tv kI 7 ((n1:Int)-1) 0 [] aS io);rw[show str []= .string ⟨#[]⟩ from rfl,Hk (by decide)]at az;obtain⟨n2,hn2⟩:∃n2,n2=((ns++Ag ns.length x)++Ag (ns++Ag ns.length x).length y).length:=⟨_,rfl⟩;rw[<-hn2]at az;have dM:=J hn2;obtain⟨⟨k0,k1,k2,k3,k4⟩,⟨f1,f2,f3,f4⟩,iK⟩:=aS.blk.five';clear ak hr aS hk cw hn2 io;go_wp2_with fail;refine az.o.mono ?_
       rintro e w8 ⟨nk,rfl,bJ,cK⟩;have HF:Hid (LoR g ts tv ns nv lg w C op [43] [45] 6 7 a b' w8):=J (.inr ⟨ot-1,.bin 7 x y,nk,HI.o.next i6.o l7 cK gH.o dM.o bT.o iR.o bJ⟩);clear bJ cK;go_wp2_with fail
       go_roundg (ts.length-b')
       case rel=>exact⟨b',rfl,HF.o⟩
       case measure=>rw[fl.o];omega
    ·have ij:=Cj dR;have hwb:IntKind.i64.wrap ((b:Int)+1)=(b:Int)+1:=IntWalk.i64_in _ (by omega);have dF:=O0 (d:=[45]) dR (by decide);go_wp2_with fail;refine ah.o.mono ?_
     rintro e w4 ⟨rfl,hd⟩;have ei:=J (KR.of_ext (g:=g) (nv:=aZ) hd.ext);have dA:=J (HI.o.rd.keep hd.ext);have aE:=J (eY.o w4 b false _ _ aZ dA.o);simp only[Bool.not_false,Bool.true_and]at aE;rw[dF]at aE;clear hd;go_wp2_with fail;refine aE.o.mono ?_
     rintro e w5 ⟨rfl,hd⟩;have cm:=dA.o.keep hd.ext;have bW:=J cm;have en:=J (ei.o.trans (KR.of_ext hd.ext));obtain⟨A2,c2,rfl⟩:=cm.row.shape;obtain⟨n1,dT⟩:∃n1,n1=(ns++Ag ns.length x).length:=⟨_,rfl⟩;obtain⟨⟨k0,k1,k2,k3,k4⟩,⟨f1,f2,f3,f4⟩,fT⟩:=cm.blk.five';have ja:1<=n1:=by rw[dT,Bp];have:=x.size_pos;omega
     have nX:n1<=b:=by rw[dT];exact cm.few
     rw[<-dT]at k3;have gH:=J dT;have ur:IntKind.i64.wrap ((n1:Int)-1)=(n1:Int)-1:=IntWalk.i64_in _ (by omega);clear hd cm dT;go_upto_region 7 with fail;have ai:=bW.o.stepR ij;obtain⟨w6,cH⟩:∃w6,w6=w5.setCell ⟨g,1,none⟩ (.int .i64 ((b:Int)+1)):=⟨_,rfl⟩;rw[<-cH]at ai ⊢;have bT:=J (en.o.trans ai.2);have el:=J (aK.o (b+1) (by have:=HI.o.lo;omega) w6 _ _ _ ai.1);have cw:=HG.o (b+1) ij;obtain⟨r,hr⟩:∃r,op (b+1)=r:=⟨_,rfl⟩;have i6:Hid (C=Ic op ts [43] [45] 6 7 (ot-1) 6 x r):=J (by rw[HI.o.eq,IJ (by omega) dR,hr]);rw[hr]at cw;clear ai cH k0 k1 k2 k3 k4 f1 f2 f3 f4;go_wp2_with fail;refine el.o.mono ?_
     intro e w7 ak;obtain⟨_|y,b'⟩:=r
     ·obtain⟨rfl,kI,rl,ro,aS,hk⟩:=ak.none_ hr;have fH:=cw.1;simp only at fH;have fJ:=cw.2.1;simp only at fJ;have HF:Hid (LoR g ts tv ns nv lg w C op [43] [45] 6 7 a b' w7):=J (.inl ⟨i6.o,kI,rl,ro,aS,(HI.o.kr.trans bT.o).trans hk⟩);obtain⟨⟨k0,k1,k2,k3,k4⟩,⟨f1,f2,f3,f4⟩,iK⟩:=aS.blk.five';clear ak hr aS hk cw;go_wp2_with fail
      go_roundg (ts.length-b')
      case rel=>exact⟨b',rfl,HF.o⟩
      case measure=>rw[fl.o];omega
     ·obtain⟨rfl,kI,aS,hk⟩:=ak.some_ hr;have l7:=cw.2.2 y rfl;have fJ:=cw.2.1;simp only at l7 fJ;have iR:=J hk;have io:((ns++Ag ns.length x)++Ag (ns++Ag ns.length x).length y).length+1<=b':=by have:=HI.o.sz;rw[Bp,Bp];omega
      have az:=J (B9 g w7 ts b' false _ _ tv kI 6 ((n1:Int)-1) 0 [] aS io);rw[show str []= .string ⟨#[]⟩ from rfl,Hk (by decide)]at az;obtain⟨n2,hn2⟩:∃n2,n2=((ns++Ag ns.length x)++Ag (ns++Ag ns.length x).length y).length:=⟨_,rfl⟩;rw[<-hn2]at az;have dM:=J hn2;obtain⟨⟨k0,k1,k2,k3,k4⟩,⟨f1,f2,f3,f4⟩,iK⟩:=aS.blk.five';clear ak hr aS hk cw hn2 io;go_wp2_with fail;refine az.o.mono ?_
      rintro e w8 ⟨nk,rfl,bJ,cK⟩;have HF:Hid (LoR g ts tv ns nv lg w C op [43] [45] 6 7 a b' w8):=J (.inr ⟨ot-1,.bin 6 x y,nk,HI.o.next i6.o l7 cK gH.o dM.o bT.o iR.o bJ⟩);clear bJ cK;go_wp2_with fail
      go_roundg (ts.length-b')
      case rel=>exact⟨b',rfl,HF.o⟩
      case measure=>rw[fl.o];omega
theorem Kh(w:World)(k:Int):Calls Tryz.prog 174 #[.int .i64 k] w fun e w'=>e= .returned (.int .i64 (Ap k))/\w=w':=by
 have key:(k<1/\Ap k= -1)\/(1<=k/\k<=4/\Ap k=0)\/(k=5/\Ap k=1)\/(6<=k/\k<=9/\Ap k=2)\/(10<=k/\k<=16/\Ap k=1)\/(17<=k/\Ap k= -1):=by
  unfold Ap;by_cases h1:k<1
  ·simp[h1]
  by_cases h2:16<k
  ·simp[h1,h2];omega
  by_cases h3:k<=4
  ·simp[h1,h2,h3];omega
  by_cases h4:6<=k/\k<=9
  ·simp[h1,h2,h3,h4]
  ·simp[h1,h2,h3,h4];omega
 rcases key with ⟨h1,h⟩|⟨h1,h2,h⟩|⟨rfl,h⟩|⟨h1,h2,h⟩|⟨h1,h2,h⟩|⟨h1,h⟩
 ·have H:=J h;have d1:decide (k>=1)=false:=decide_eq_false (by omega);have UB:¬1<=k:=by omega
  have d2:(k == 5)=false:=by rw[beq_eq_false_iff_ne];omega
  have d3:decide (k>=10)=false:=decide_eq_false (by omega);have WM:¬10<=k:=by omega
  have d4:decide (k>=6)=false:=decide_eq_false (by omega);have Zz:¬6<=k:=by omega
  clear h;go_enter Tryz.func174,Tryz.ntmps174;go_wp2_with fail;go_ret;exact⟨by rw[H.o];rfl,rfl⟩
 ·have H:=J h;clear h;go_enter Tryz.func174,Tryz.ntmps174;go_wp2_with fail;go_ret;exact⟨by rw[H.o];rfl,rfl⟩
 ·have H:=J h;clear h;go_enter Tryz.func174,Tryz.ntmps174;go_wp2_with fail;go_ret;exact⟨by rw[H.o];rfl,rfl⟩
 ·have H:=J h;have UB:1<=k:=by omega
  have wl:¬k<=4:=by omega
  have d2:(k == 5)=false:=by rw[beq_eq_false_iff_ne];omega
  have WM:¬10<=k:=by omega
  clear h;go_enter Tryz.func174,Tryz.ntmps174;go_wp2_with fail;go_ret;exact⟨by rw[H.o];rfl,rfl⟩
 ·have H:=J h;have UB:1<=k:=by omega
  have wl:¬k<=4:=by omega
  have d2:(k == 5)=false:=by rw[beq_eq_false_iff_ne];omega
  clear h;go_enter Tryz.func174,Tryz.ntmps174;go_wp2_with fail;go_ret;exact⟨by rw[H.o];rfl,rfl⟩
 ·have H:=J h;have UB:1<=k:=by omega
  have wl:¬k<=4:=by omega
  have d2:(k == 5)=false:=by rw[beq_eq_false_iff_ne];omega
  have WM:10<=k:=by omega
  have ZA:¬k<=16:=by omega
  have Zz:6<=k:=by omega
  have Zy:¬k<=9:=by omega
  clear h;go_enter Tryz.func174,Tryz.ntmps174;go_wp2_with fail;go_ret;exact⟨by rw[H.o];rfl,rfl⟩
theorem NV(w:World)(x:Nd)(hl:x.text.length<=1073741824)(hm:BC w):Calls Tryz.prog 175 #[ndV x] w fun e w'=>e= .returned (.bool (Ay x))/\Ext w w':=by
 obtain⟨k,a,b,n,t⟩:=x;simp only[ndV]at hl ⊢;have HP:=J (fun W h=>Jv W t h);have HM:=J hm;have HW:=J (fun W=>I5 W t hl);have ec:=J (fun W=>Ff W t);have oW:Cs t=(CS t && !Bb t):=by rw[B3];rfl
 obtain⟨s,hs⟩:∃s:ByteArray,s=⟨t.toArray⟩:=⟨_,rfl⟩;have ai:str t= .string s:=by rw[hs];rfl
 have hne:s.toList.isEmpty=(t == []):=by rw[hs];exact IK t
 rw[ai]at HP HW ec ⊢;clear hs ai hm;have hb0:=Blk.new w 95 #[.int .i64 k,.int .i64 a,.int .i64 b,.int .i64 n,.string s];have ek:=J ((Ext.refl w).alloc (.cells #[.int .i64 k,.int .i64 a,.int .i64 b,.int .i64 n,.string s] 95));have fD:=J hb0;have q0:=hb0.five;clear hb0;have key:(k=1)\/(k=2)\/(k=10)\/(k≠1/\k≠2/\k≠10):=by omega
 rcases key with rfl|rfl|rfl|⟨fg,hk2,dG⟩
 ·have og:((Bs t:Int) == 0)=(Bs t == 0):=by rw[Bool.eq_iff_iff];simp
  have H:Hid (Ay ⟨1,a,b,n,t⟩=((Bs t:Int) == 0 && (n == 0))):=J (by rw[og];unfold Ay Ch B4;simp);clear hne og oW;generalize Ay ⟨1,a,b,n,t⟩=r at *;generalize hce:(Bs t:Int)=ce at *;go_enter Tryz.func175,Tryz.ntmps175;go_wp2_with fail;refine(HP.o _ (HM.o.ext ek.o)).mono ?_
  rintro e w5 ⟨v5,rfl,cm,hx5⟩;obtain⟨b5,n5,A5,c5,n6,A6,c6,rfl⟩:=cm.shape;have be:=hx5.alloc (.cells #[.bool b5,.slice A5 n5 c5,.slice A6 n6 c6] 26);have aO:=J (ek.o.trans be);have q0:=(fD.o.ext be).five;clear cm hx5 be;rw[hce];clear hce;cases hz:(ce == 0)
  ·rw[hz]at H;go_wp2_with fail;go_ret;exact⟨by rw[H.o];rfl,aO.o⟩
  ·rw[hz]at H;go_wp2_with fail;go_ret;exact⟨by rw[H.o];rfl,aO.o⟩
 ·have H:Hid (Ay ⟨2,a,b,n,t⟩=((CS t && !Bb t) && (n == 0))):=J (by rw[<-oW];unfold Ay Ch B4;simp);generalize Ay ⟨2,a,b,n,t⟩=r at *;clear hne oW;cases hw:CS t
  ·rw[hw]at HW H;clear hw;go_enter Tryz.func175,Tryz.ntmps175;go_wp2_with fail;refine(HW.o _).mono ?_
   rintro e w5 ⟨rfl,rfl⟩;go_wp2_with fail;go_ret;exact⟨by rw[H.o];rfl,ek.o⟩
  ·rw[hw]at HW H;clear hw;cases hv:Bb t
   all_goals
    rw[hv]at ec H;clear hv;go_enter Tryz.func175,Tryz.ntmps175;go_wp2_with fail;refine(HW.o _).mono ?_
    rintro e w5 ⟨rfl,rfl⟩;go_wp2_with fail;refine(ec.o _).mono ?_
    rintro e w6 ⟨rfl,rfl⟩;go_wp2_with fail;go_ret;exact⟨by rw[H.o];rfl,ek.o⟩
 ·have H:Hid (Ay ⟨10,a,b,n,t⟩=((decide (-64<=n) && decide (n<=64)) && s.toList.isEmpty)):=J (by rw[hne,<-KK];unfold Ay Ch B4;rw[Bool.and_comm];rfl);generalize Ay ⟨10,a,b,n,t⟩=r at *;clear hne oW HP HW ec hl;by_cases hn: -64<=n
  ·have hd:decide (-64<=n)=true:=decide_eq_true hn;rw[hd]at H;by_cases hn2:n<=64
   ·have ba:decide (n<=64)=true:=decide_eq_true hn2;rw[ba]at H;go_enter Tryz.func175,Tryz.ntmps175;go_wp2_with fail;go_ret;exact⟨by rw[H.o];rfl,ek.o⟩
   ·have ba:decide (n<=64)=false:=decide_eq_false hn2;rw[ba]at H;go_enter Tryz.func175,Tryz.ntmps175;go_wp2_with fail;go_ret;exact⟨by rw[H.o];rfl,ek.o⟩
  ·have hd:decide (-64<=n)=false:=decide_eq_false hn;rw[hd]at H;go_enter Tryz.func175,Tryz.ntmps175;go_wp2_with fail;go_ret;exact⟨by rw[H.o];rfl,ek.o⟩
 ·have e1:(k == 1)=false:=by rw[beq_eq_false_iff_ne];omega
  have e2:(k == 2)=false:=by rw[beq_eq_false_iff_ne];omega
  have e3:(k == 10)=false:=by rw[beq_eq_false_iff_ne];omega
  have H:Hid (Ay ⟨k,a,b,n,t⟩=((n == 0) && s.toList.isEmpty)):=J (by rw[hne,Bool.and_comm];unfold Ay Ch B4;rw[if_neg fg,if_neg hk2,if_neg dG]);generalize Ay ⟨k,a,b,n,t⟩=r at *;clear hne oW HP HW ec hl fg hk2 dG;cases hz:(n == 0)
  ·rw[hz]at H;go_enter Tryz.func175,Tryz.ntmps175;go_wp2_with fail;go_ret;exact⟨by rw[H.o];rfl,ek.o⟩
  ·rw[hz]at H;go_enter Tryz.func175,Tryz.ntmps175;go_wp2_with fail;go_ret;exact⟨by rw[H.o];rfl,ek.o⟩
def prC(L:List (Nat × Nat)):List Value:=L.flatMap (fun p=>[din p.1,din p.2])
theorem SI(L:List (Nat × Nat)):(prC L).length=L.length*2:=by
 induction L with
 |nil=>rfl
 |cons p L ih=>
  unfold prC at *;rw[List.flatMap_cons,List.length_append,ih,List.length_cons];simp;omega
theorem Cw(L M:List (Nat × Nat)):prC (L++M)=prC L++prC M:=by simp[prC]
theorem EH(p:Nat × Nat):prC [p]=[din p.1,din p.2]:=by simp[prC]
theorem G1(L:List (Nat × Nat))(n:Nat):(prC L).take (n*2)=prC (L.take n):=by
 induction L generalizing n with
 |nil=>simp[prC]
 |cons p L ih=>
  cases n with
  |zero=>simp[prC]
  |succ n=>
   unfold prC at *;rw[List.flatMap_cons,List.take_succ_cons,List.flatMap_cons,show (n+1)*2=n*2+2 by omega];show din p.1::din p.2::List.take (n*2) (List.flatMap (fun p=>[din p.1,din p.2]) L)=din p.1::din p.2::List.flatMap (fun p=>[din p.1,din p.2]) (List.take n L);rw[ih n]
theorem SJ(L:List (Nat × Nat))(i:Nat)(hi:i<L.length):(prC L)[i*2]? =some (din (L.getD i (0,0)).1)/\(prC L)[i*2+1]? =some (din (L.getD i (0,0)).2):=by
 induction L generalizing i with
 |nil=>simp at hi
 |cons p L ih=>
  unfold prC at *;rw[List.flatMap_cons];cases i with
  |zero=>exact⟨rfl,rfl⟩
  |succ i=>
   have h:=ih i (by simpa using hi);rw[List.getElem?_append_right (by simp;omega),List.getElem?_append_right (by simp;omega)];have e1:(i+1)*2-[din p.1,din p.2].length=i*2:=by simp;omega
   have e2:(i+1)*2+1-[din p.1,din p.2].length=i*2+1:=by simp;omega
   rw[e1,e2];exact h
def CZ(B:Nat)(w:World)(v:Value)(n:Nat)(L:List (Nat × Nat)):Prop:=w.ownsRow B 196 2 v n (prC L)
theorem Qi:(Tryz.prog.info? 196).map (fun i=>(i.zero,i.size,i.bytes))=some (some (.agg #[.int .i64 0,.int .i64 0]),2,16):=by kernel_rfl
theorem CZ.len{B n:Nat}{w:World}{v:Value}{L:List (Nat × Nat)}(h:CZ B w v n L):L.length=n:=by
 have:=h.1;rw[SI]at this;omega
theorem CZ.ext{B n:Nat}{w w':World}{v:Value}{L:List (Nat × Nat)}(h:CZ B w v n L)(hx:Ext w w'):CZ B w' v n L:=Ad h (fun _ _ hg=>Below.block hx _ hg)
theorem CZ.get{B n g c:Nat}{w:World}{L:List (Nat × Nat)}(h:CZ B w (.slice (some ⟨g,0,none⟩) n c) n L)(j:Nat)(hj:j<n):w.cell? ⟨g,j*2,none⟩=some (.int .i64 ((L.getD j (0,0)).1:Int))/\w.cell? ⟨g,j*2+1,none⟩=some (.int .i64 ((L.getD j (0,0)).2:Int)):=by
 have hl:=h.len;have h1:=h.cellAt (j*2) (by omega);have h2:=h.cellAt (j*2+1) (by omega);have h3:=SJ L j (by omega);rw[h1,h2];exact h3
theorem AY{B sz n:Nat}{e:TypeId}{w:World}{v:Value}{xs:List Value}(h:w.ownsRow B e sz v n xs)(g:Nat)(hg:v.ownBlock=some g):B<=g/\g<w.heap.size:=by
 rcases h.2 with ⟨rfl,h2⟩|⟨g',cap,cur,rfl,hb,hh,_⟩
 ·cases hg
 ·simp only[Value.ownBlock,Option.some.injEq]at hg;subst hg;refine⟨hb,?_⟩;rcases Nat.lt_or_ge g' w.heap.size with h|h
  ·exact h
  ·rw[Array.getElem?_eq_none h]at hh;cases hh
theorem Ds{B sz n m:Nat}{e:TypeId}{w:World}{A:Option Addr}{c:Nat}{xs:List Value}(h:w.ownsRow B e sz (.slice A n c) n xs)(hm:m<=n):w.ownsRow B e sz (.slice A m c) m (xs.take (m*sz)):=by
 have vf:m*sz<=n*sz:=Nat.mul_le_mul_right sz hm;refine⟨by rw[List.length_take,h.1];omega,?_⟩;rcases h.2 with ⟨h1,h2⟩|⟨g,cap,cur,h1,hb,hh,hc,gP,hs,ht⟩
 ·injection h1 with h1 h3 h4
  subst h1;subst h2;obtain rfl:m=0:=by omega
  exact .inl ⟨by rw[h4],rfl⟩
 ·injection h1 with h1 h3 h4
  subst h1;subst h4;exact .inr ⟨g,c,cur,rfl,hb,hh,by omega,gP,hs,by rw[<-ht,List.take_take,Nat.min_eq_left vf]⟩
theorem EF {B Xu VC n m g:Nat} {e1 e2:TypeId} {W W1 w':World} {v u u':Value} {xs ys:List Value} (h4:W.ownsRow B e1 Xu v n xs) (h5:W.ownsRow B e2 VC u m ys) (jv:EM v u) (hx:Ext W W1) (hB:B<=W.heap.size)
  (al:W1.grownBy w' v.ownBlock) (hat:v.ownBlock=some g\/g=W1.heap.size) (hu:u'.ownBlock=some g):w'.ownsRow B e2 VC u m ys/\EM u' u/\Below B W w':=by
 refine⟨?_,fun k hk he=> ?_,?_⟩
 ·refine(Ad h5 (fun _ _ hg=>Below.block hx _ hg)).kept al ?_
  cases hu5:u.ownBlock with
  |none=>exact .inl rfl
  |some k=>exact .inr (fun he=>jv k he.symm hu5)
 ·rw[hu]at hk;injection hk with hk
  subst hk;rcases hat with hat|hat
  ·exact jv g hat he
  ·have:=(AY h5 g he).2;have:=hx.size;omega
 ·exact Below.grown (Below.mono hx hB) al (Nat.le_trans hB hx.size) (fun k hk=>(AY h4 k hk).1)
def Lg(l:List Nd)(w:World)(e:Ending)(w':World):Prop:=
 ∃v,e= .returned (.tuple #[v,.int .i64 ((DT l).2:Int)])/\Ext w w'/\CZ w.heap.size w' v (DT l).1.length (DT l).1
structure J9 (l:List Nd) (w:World) (i:Nat) (all st:List (Nat × Nat)) (va vs:Value) (wr:World):Prop where
 go:DT l=GJ i all st (l.drop i)
 ra:CZ w.heap.size wr va i all
 rs:CZ w.heap.size wr vs st.length st
 apart:EM va vs
 ext:Ext w wr
 low:∀p∈st,p.1<=i/\p.2<=i
 fs:st.length<=i
theorem J9.bad{l:List Nd}{w wr:World}{i:Nat}{all st:List (Nat × Nat)}{va vs:Value}{nd:Nd}(h:J9 l w i all st va vs wr)(hn:l[i]? =some nd)(hs:AP i st nd=none):DT l=(all,0):=by
 have h1:=h.go;rw[Ei hn,GJ,hs]at h1;exact h1
theorem J9.next {l:List Nd} {w wr w':World} {i k:Nat} {all st:List (Nat × Nat)} {va vs yq ub:Value} {nd:Nd} {p:Nat × Nat} (h:J9 l w i all st va vs wr) (hn:l[i]? =some nd) (hs:AP i st nd=some (p,st.take k++[p]))
  (h4:CZ w.heap.size w' yq (i+1) (all++[p])) (h5:CZ w.heap.size w' ub (k+1) (st.take k++[p])) (hk:k<=st.length) (jv:EM yq ub) (hx:Ext w w') (hp:p.1<=i+1/\p.2<=i+1):J9 l w (i+1) (all++[p]) (st.take k++[p]) yq ub w':=by
 have h1:=h.go;rw[Ei hn,GJ,hs]at h1;have hl:(st.take k++[p]).length=k+1:=by rw[List.length_append,List.length_take,List.length_singleton];omega
 refine⟨h1,h4,by rw[hl];exact h5,jv,hx,fun q hq=> ?_,by have:=h.fs;rw[hl];omega⟩;rcases List.mem_append.1 hq with hq|hq
 ·have:=h.low q (List.mem_of_mem_take hq);omega
 ·rw[List.mem_singleton]at hq;rw[hq];exact hp
section
variable {st:List (Nat × Nat)} {i:Nat} {k a b n:Int} {t:List UInt8}
theorem NU(h:Ap k<0):AP i st ⟨k,a,b,n,t⟩=none:=by unfold AP;rw[if_pos (.inl h)]
theorem Jo(h:(st.length:Int)<Ap k):AP i st ⟨k,a,b,n,t⟩=none:=by unfold AP;rw[if_pos (.inr (.inl h))]
theorem Iw(h:Ap k=0)(h2:¬(a=0/\b=0)):AP i st ⟨k,a,b,n,t⟩=none:=by
 unfold AP;simp only[h];split
 ·rfl
 ·simp[h2]
theorem Iv(h:Ap k=1)(h2:¬(a=(i:Int)-1/\b=0)):AP i st ⟨k,a,b,n,t⟩=none:=by
 unfold AP;simp only[h];split
 ·rfl
 ·simp[h2]
theorem Iu(h:Ap k=2)(h2:¬(a=((st.getD (st.length-1) (0,0)).1:Int)-1/\b=(i:Int)-1)):AP i st ⟨k,a,b,n,t⟩=none:=by
 unfold AP;simp only[h];split
 ·rfl
 ·first|(simp[h2];done)|(simp;exact fun h3 h4=>absurd ⟨h3,h4⟩ h2)
theorem Rp(h:Ap k=0)(hp:Ay ⟨k,0,0,n,t⟩=true):AP i st ⟨k,0,0,n,t⟩=some ((i,1),st.take (st.length-0)++[(i,1)]):=by
 unfold AP;simp only[h,hp];rw[if_neg (by first|(simp;done)|(simp;omega))];simp
theorem Ro(h:Ap k=1)(hp:Ay ⟨k,(i:Int)-1,0,n,t⟩=true)(hm:1<=st.length):AP i st ⟨k,(i:Int)-1,0,n,t⟩=some (((st.getD (st.length-1) (0,0)).1,(st.getD (st.length-1) (0,0)).2+1),st.take (st.length-1)++[((st.getD (st.length-1) (0,0)).1,(st.getD (st.length-1) (0,0)).2+1)]):=by
 unfold AP;simp only[h,hp];rw[if_neg (by first|(simp;done)|(simp;omega)),if_neg (by decide),if_pos trivial,if_pos (by simp)]
theorem Rn(h:Ap k=2)(hp:Ay ⟨k,((st.getD (st.length-1) (0,0)).1:Int)-1,(i:Int)-1,n,t⟩=true)(hm:2<=st.length):AP i st ⟨k,((st.getD (st.length-1) (0,0)).1:Int)-1,(i:Int)-1,n,t⟩=some (((st.getD (st.length-2) (0,0)).1,max ((st.getD (st.length-1) (0,0)).2+1) ((st.getD (st.length-2) (0,0)).2+1)),st.take (st.length-2)++[((st.getD (st.length-2) (0,0)).1,max ((st.getD (st.length-1) (0,0)).2+1) ((st.getD (st.length-2) (0,0)).2+1))]):=by
 unfold AP;simp only[h,hp];rw[if_neg (by first|(simp;done)|(simp;omega)),if_neg (by decide),if_neg (by decide),if_pos (by simp)]
theorem Fg(h:Ay ⟨k,a,b,n,t⟩=false):AP i st ⟨k,a,b,n,t⟩=none:=by unfold AP;rw[if_pos (.inr (.inr h))]
end
theorem PR(w:World)(v:Value)(l:List Nd)(hr:RNd w v l)(hl:l.length<=1000000)(cd:∀x∈l,x.text.length<=1073741824)(hm:BC w):Calls Tryz.prog 132 #[v] w (Lg l w):=by
 have HR:=J hr;have eD:=J cd;have mE:=J hm;obtain⟨i0,hi,aU,hz1,a9⟩:=info_parts Qi;obtain⟨A,c,rfl,_⟩:=hr;clear cd hm;have aF:Hid (J9 l w 0 [] [] (.slice none 0 0) (.slice none 0 0) w):=J ⟨rfl,⟨rfl,.inl ⟨rfl,rfl⟩⟩,⟨rfl,.inl ⟨rfl,rfl⟩⟩,(fun g h=>by cases h),Ext.refl w,(fun p h=>by cases h),Nat.zero_le _⟩;obtain⟨n,hn⟩:∃n,n=l.length:=⟨_,rfl⟩;have HN:=J hn;rw[<-hn]at hl ⊢;clear hn;go_enter Tryz.func132,Tryz.ntmps132;go_wp2_with fail;go_loopw [4,5,15] (fun s4 s5 s15 wr=>∃(i:Nat) (all st:List (Nat × Nat)),i<=n/\s15= .int .i64 (i:Int)/\J9 l w i all st s4 s5 wr) (fun _ _ s15 _=>n-(intOf s15).toNat)
 case atStart=>exact⟨0,[],[],Nat.zero_le _,rfl,aF.o⟩
 case round=>
  obtain⟨i,all,st,hin,rfl,aJ⟩:=hrel;have HI:=J aJ;obtain⟨A4,c4,rfl⟩:=Am aJ.ra;obtain⟨A5,c5,rfl⟩:=Am aJ.rs;clear aF;have YP:=aJ.fs;obtain⟨ms,vf⟩:∃ms,ms=st.length:=⟨_,rfl⟩;rw[<-vf]at YP ⊢;have kH:=J vf;clear vf;by_cases hlt:i<n
  ·have hil:i<l.length:=by rw[<-HN.o];exact hlt
   obtain⟨A',c',he,hc⟩:=HR.o.ext aJ.ext;obtain⟨b,o,Uv,hb,hc⟩:=hc (by omega);obtain⟨nd,hnd,hat,gj⟩:∃nd,l[i]? =some nd/\OM wr b (o+i*5) nd/\nd.text.length<=1073741824:=⟨l[i],List.getElem?_eq_getElem hil,hc i hil,eD.o _ (List.getElem_mem hil)⟩
   injection he with he1 he2 he3
   subst he1;clear he2 he3;subst Uv;have ar:Hid (AP i st nd=none->DT l=(all,0)):=J (fun h=>aJ.bad hnd h);have aQ:=J hnd;clear hnd hc;have hw:wr.heap.size>=w.heap.size:=aJ.ext.size;have HX:=J aJ.ext;have k9:=J (mE.o.ext aJ.ext);clear aJ hil;obtain⟨kd,na,nb,nn,nt⟩:=nd;have bF:=J (fun W h=>NV W ⟨kd,na,nb,nn,nt⟩ gj h);simp only[ndV]at bF;obtain⟨k0,k1,k2,k3,k4⟩:=hat;simp only at k0 k1 k2 k3 k4;obtain⟨s,hs⟩:∃s:ByteArray,s=⟨nt.toArray⟩:=⟨_,rfl⟩;have ai:str nt= .string s:=by rw[hs];rfl
   rw[ai]at bF k4;clear hs ai gj;have aK:=J (fun W=>Kh W kd);have key:=FO kd;obtain⟨p,hp⟩:∃p,p=Ay ⟨kd,na,nb,nn,nt⟩:=⟨_,rfl⟩;rw[<-hp]at bF;have hb0:=Blk.new wr 95 #[.int .i64 kd,.int .i64 na,.int .i64 nb,.int .i64 nn,.string s];have ax:=J ((Ext.refl wr).alloc (.cells #[.int .i64 kd,.int .i64 na,.int .i64 nb,.int .i64 nn,.string s] 95));have cG:=J hb0;have q0:=hb0.five;clear hb0;have fi:=J HI.o.ra;have ec:Hid (CZ w.heap.size wr (.slice A5 ms c5) ms st):=J (by
    have h:=HI.o.rs;rw[<-kH.o]at h;exact h)
   have i5:=J HI.o.ra.len;have td:Hid (∀j,j<ms->(st.getD j (0,0)).1<=i/\(st.getD j (0,0)).2<=i):=J (fun j hj=>HI.o.low _ (by
    have oZ:j<st.length:=by rw[<-kH.o];exact hj
    rw[List.getD_eq_getElem?_getD,List.getElem?_eq_getElem oZ];exact List.getElem_mem oZ))
   rcases key with aG|aG|aG|aG
   ·have aN:=J (ar.o (NU (by rw[aG];decide)));rw[aG]at aK;clear aG hp ar;go_wp2_with fail;refine(aK.o _).mono ?_
    rintro e w2 ⟨rfl,rfl⟩;go_wp2_with fail;go_ret2;exact⟨_,by rw[aN.o];rfl,HX.o.trans ax.o,by rw[aN.o,i5.o];exact fi.o.ext ax.o⟩
   ·cases hpb:p
    ·rw[hpb]at hp bF;have aN:=J (ar.o (Fg hp.symm));rw[aG]at aK;clear aG hp ar hpb;go_wp2_with fail;refine(aK.o _).mono ?_
     rintro e w2 ⟨rfl,rfl⟩;go_wp2_with fail;refine(bF.o _ (k9.o.ext ax.o)).mono ?_
     rintro e w3 ⟨rfl,ae⟩;have q0:=(cG.o.ext ae).five;have kK:=(cG.o.ext ae).lt;have hJ:wr.heap.size<w3.heap.size+1:=by omega
     have g8:wr.heap.size<w3.heap.size+1+1:=by omega
     have g3:wr.heap.size<w3.heap.size+1+1+1:=by omega
     have aj:=J (ax.o.trans ae);clear ae;go_wp2_with fail;go_ret2;exact⟨_,by rw[aN.o];rfl,HX.o.trans aj.o,by rw[aN.o,i5.o];exact fi.o.ext aj.o⟩
    ·rw[hpb]at hp bF;have wV:=J hp.symm;clear hpb hp;by_cases ha:na=0
     ·subst ha;by_cases hb2:nb=0
      ·subst hb2;have eG:Hid (AP i st ⟨kd,0,0,nn,nt⟩=some ((i,1),st.take (ms-0)++[(i,1)])):=J (by rw[kH.o];exact Rp aG wV.o);have cT:Hid (i<=i+1/\1<=i+1):=J ⟨by omega,by omega⟩;rw[aG]at aK;clear aG ar;go_wp2_with fail;refine(aK.o _).mono ?_
       rintro e w2 ⟨rfl,rfl⟩;go_wp2_with fail;refine(bF.o _ (k9.o.ext ax.o)).mono ?_
       rintro e w3 ⟨rfl,ae⟩;have q0:=(cG.o.ext ae).five;have kK:=(cG.o.ext ae).lt;have hJ:wr.heap.size<w3.heap.size+1:=by omega
       have g8:wr.heap.size<w3.heap.size+1+1:=by omega
       have g3:wr.heap.size<w3.heap.size+1+1+1:=by omega
       have aj:=J (ax.o.trans ae);clear ae;go_upto_region 20 with fail;rcases ec.o.2 with ⟨he,h0⟩|⟨g5,wn,wm,he,_,_,tS,_⟩
       ·injection he with he1 he2 he3
        have H0:=J (And.intro he2 he3);subst he1;clear he2 he3 h0;obtain⟨w4,hw4⟩:∃w4,w4=(w3.alloc (.cells #[.int .i64 (i:Int),.int .i64 1] 196)).alloc (.cells #[.int .i64 kd,.int .i64 0,.int .i64 0,.int .i64 nn,.string s] 95):=⟨_,rfl⟩;rw[<-hw4];have gZ:Ext w3 w4:=by rw[hw4];exact(((Ext.refl w3).alloc _).alloc _)
        have jj:Blk w4 w3.heap.size 196 #[.int .i64 (i:Int),.int .i64 1]:=by rw[hw4];exact((Blk.new w3 _ _).alloc _)
        have aE:=J (aj.o.trans gZ);have tB:=J jj;obtain⟨p0,p1⟩:=jj.two';obtain⟨mk,dZ⟩:∃mk,mk=ms-0:=⟨_,rfl⟩;have iW:IntKind.i64.wrap (ms:Int)=(mk:Int):=by rw[IntWalk.i64_in _ (by omega)];omega
        have Yu:mk<=c5:=by have:=H0.o;omega
        have bO:w.heap.size<=w4.heap.size:=Nat.le_trans HX.o.size aE.o.size;have cp:=J (Ds (m:=mk) (ec.o.ext aE.o) (by omega));have i7:=J (fi.o.ext aE.o);have kU:=jj.lt;have sc:wr.heap.size<=w3.heap.size:=aj.o.size;have lc:Hid (mk<=st.length):=J (by rw[<-kH.o];omega);have lL:Hid (AP i st ⟨kd,0,0,nn,nt⟩=some ((i,1),st.take mk++[(i,1)])):=J (by rw[dZ];exact eG.o);have cZ:Hid ((w4.alloc (.cells #[.int .i64 (i:Int),.int .i64 1] 196)).drew.ownsRow w.heap.size 196 2 (.slice none mk c5) mk ((prC st).take (mk*2))):=J (Ad cp.o (fun k _ hk=>Below.heap_alloc w4 _ k hk));have bC:Hid (∀(j:Nat) (u:Value),[Value.int .i64 (i:Int),Value.int .i64 1][j]? =some u->(w4.alloc (.cells #[.int .i64 (i:Int),.int .i64 1] 196)).drew.cell? ((⟨w4.heap.size,0,none⟩:Addr).add j)=some u):=J (Bw w4 196 [.int .i64 (i:Int),.int .i64 1]);have aM:Hid (mk+1<=maxLen):=J (by unfold maxLen;omega);have aP:Hid ((mk+1)*16<=140737488355328):=J (by omega);have aD:Hid (w.heap.size<=(w4.alloc (.cells #[.int .i64 (i:Int),.int .i64 1] 196)).drew.heap.size):=J (by simp;omega);clear hw4 jj gZ dZ q0
        go_region_law (refine step_append_lies _ rfl (.tmp 96) (.tmp 98) 192 rfl w.heap.size 196 i0 _ 2 16 Tryz.underlying192 hi aU hz1 a9 rfl (by decide) _ mk ((prC st).take (mk*2)) rfl cZ.o ⟨w4.heap.size,0,none⟩ 1 1 [.int .i64 (i:Int),.int .i64 1] rfl rfl bC.o (by simp[Value.oneCell']) (by decide) aM.o aP.o aD.o _ rfl ?_;intro g6 c6 w6 aT bM bR ey;have dj:=J aT;have ix:=J bM;have lp:=J bR;clear aT bM bR)
        all_goals
         have ah:Hid (Ext w4 (w4.alloc (.cells #[.int .i64 (i:Int),.int .i64 1] 196)).drew):=J ((Ext.refl w4).alloc _).drew;have cJ:=J (EF (u':= .slice (some ⟨g6,0,none⟩) (mk+1) c6) cp.o i7.o (fun g h1 h2=>HI.o.apart g h2 h1) ah.o bO ix.o lp.o rfl);have ip:Blk w6 w3.heap.size 196 #[.int .i64 (i:Int),.int .i64 1]:=(ix.o.block w3.heap.size (Nat.lt_of_lt_of_le kU ah.o.size) (by intro he;cases he)).trans (tB.o.ext ah.o);obtain⟨y0,y1⟩:=ip.two';have cC:Hid (CZ w.heap.size w6 (.slice (some ⟨g6,0,none⟩) (mk+1) c6) (mk+1) (st.take mk++[(i,1)])):=J (by unfold CZ;rw[Cw,EH,<-G1];exact dj.o);have kX:Hid ((w6.alloc (.cells #[.int .i64 (i:Int),.int .i64 1] 196)).ownsRow w.heap.size 196 2 (.slice A4 i c4) i (prC all)):=J (Ad cJ.o.1 (fun k _ hk=>Below.heap_alloc w6 _ k hk));have fM:=J (Bw w6 196 [.int .i64 (i:Int),.int .i64 1]);have eJ:Hid (i+1<=maxLen):=J (by unfold maxLen;omega);have dP:Hid ((i+1)*16<=140737488355328):=J (by omega);have kP:w.heap.size<=w6.heap.size:=Nat.le_trans bO cJ.o.2.2.size;have bv:Hid (w.heap.size<=(w6.alloc (.cells #[.int .i64 (i:Int),.int .i64 1] 196)).heap.size):=J (by simp;omega);clear ip p0 p1;go_wp2_with (at_builtin;go_must (refine wpList_append_lies _ rfl _ _ 192 rfl w.heap.size 196 i0 _ 2 16 Tryz.underlying192 hi aU hz1 a9 rfl (by decide) (.slice A4 i c4) i (prC all) rfl kX.o ⟨w6.heap.size,0,none⟩ 1 1 [.int .i64 (i:Int),.int .i64 1] rfl rfl fM.o (by simp[Value.oneCell']) (by decide) eJ.o dP.o bv.o _ rfl ?_;intro g7 c7 w7 aI co dy mi;have dh:=J (EF (u':= .slice (some ⟨g7,0,none⟩) (i+1) c7) cJ.o.1 cC.o (fun g h1 h2=>cJ.o.2.1 g h2 h1) ((Ext.refl w6).alloc _) kP co dy rfl);have tF:Hid (CZ w.heap.size w7 (.slice (some ⟨g7,0,none⟩) (i+1) c7) (i+1) (all++[(i,1)])):=J (by unfold CZ;rw[Cw,EH];exact aI);clear aI co dy));go_wp2_with fail;go_roundw
         case rel=>exact⟨i+1,_,_,by omega,by go_num,HI.o.next aQ.o lL.o tF.o dh.o.1 lc.o dh.o.2.1 ((HX.o.trans aE.o).more (cJ.o.2.2.trans dh.o.2.2)) (by have:=cT.o;exact this)⟩
         case measure=>simp[intOf];omega
       ·injection he with he1 he2 he3
        subst he1;subst he3;clear he2;obtain⟨w4,hw4⟩:∃w4,w4=(w3.alloc (.cells #[.int .i64 (i:Int),.int .i64 1] 196)).alloc (.cells #[.int .i64 kd,.int .i64 0,.int .i64 0,.int .i64 nn,.string s] 95):=⟨_,rfl⟩;rw[<-hw4];have gZ:Ext w3 w4:=by rw[hw4];exact(((Ext.refl w3).alloc _).alloc _)
        have jj:Blk w4 w3.heap.size 196 #[.int .i64 (i:Int),.int .i64 1]:=by rw[hw4];exact((Blk.new w3 _ _).alloc _)
        have aE:=J (aj.o.trans gZ);have tB:=J jj;obtain⟨p0,p1⟩:=jj.two';obtain⟨mk,dZ⟩:∃mk,mk=ms-0:=⟨_,rfl⟩;have iW:IntKind.i64.wrap (ms:Int)=(mk:Int):=by rw[IntWalk.i64_in _ (by omega)];omega
        have Yu:mk<=c5:=by omega
        have bO:w.heap.size<=w4.heap.size:=Nat.le_trans HX.o.size aE.o.size;have cp:=J (Ds (m:=mk) (ec.o.ext aE.o) (by omega));have i7:=J (fi.o.ext aE.o);have kU:=jj.lt;have sc:wr.heap.size<=w3.heap.size:=aj.o.size;have lc:Hid (mk<=st.length):=J (by rw[<-kH.o];omega);have lL:Hid (AP i st ⟨kd,0,0,nn,nt⟩=some ((i,1),st.take mk++[(i,1)])):=J (by rw[dZ];exact eG.o);have cZ:Hid ((w4.alloc (.cells #[.int .i64 (i:Int),.int .i64 1] 196)).drew.ownsRow w.heap.size 196 2 (.slice (some ⟨g5,0,none⟩) mk c5) mk ((prC st).take (mk*2))):=J (Ad cp.o (fun k _ hk=>Below.heap_alloc w4 _ k hk));have bC:Hid (∀(j:Nat) (u:Value),[Value.int .i64 (i:Int),Value.int .i64 1][j]? =some u->(w4.alloc (.cells #[.int .i64 (i:Int),.int .i64 1] 196)).drew.cell? ((⟨w4.heap.size,0,none⟩:Addr).add j)=some u):=J (Bw w4 196 [.int .i64 (i:Int),.int .i64 1]);have aM:Hid (mk+1<=maxLen):=J (by unfold maxLen;omega);have aP:Hid ((mk+1)*16<=140737488355328):=J (by omega);have aD:Hid (w.heap.size<=(w4.alloc (.cells #[.int .i64 (i:Int),.int .i64 1] 196)).drew.heap.size):=J (by simp;omega);clear hw4 jj gZ dZ q0
        go_region_law (refine step_append_lies _ rfl (.tmp 96) (.tmp 98) 192 rfl w.heap.size 196 i0 _ 2 16 Tryz.underlying192 hi aU hz1 a9 rfl (by decide) _ mk ((prC st).take (mk*2)) rfl cZ.o ⟨w4.heap.size,0,none⟩ 1 1 [.int .i64 (i:Int),.int .i64 1] rfl rfl bC.o (by simp[Value.oneCell']) (by decide) aM.o aP.o aD.o _ rfl ?_;intro g6 c6 w6 aT bM bR ey;have dj:=J aT;have ix:=J bM;have lp:=J bR;clear aT bM bR)
        all_goals
         have ah:Hid (Ext w4 (w4.alloc (.cells #[.int .i64 (i:Int),.int .i64 1] 196)).drew):=J ((Ext.refl w4).alloc _).drew;have cJ:=J (EF (u':= .slice (some ⟨g6,0,none⟩) (mk+1) c6) cp.o i7.o (fun g h1 h2=>HI.o.apart g h2 h1) ah.o bO ix.o lp.o rfl);have ip:Blk w6 w3.heap.size 196 #[.int .i64 (i:Int),.int .i64 1]:=(ix.o.block w3.heap.size (Nat.lt_of_lt_of_le kU ah.o.size) (by intro he;have he2:w3.heap.size=g5:=Option.some.inj he;have:=(AY ec.o g5 rfl).2;omega)).trans (tB.o.ext ah.o);obtain⟨y0,y1⟩:=ip.two';have cC:Hid (CZ w.heap.size w6 (.slice (some ⟨g6,0,none⟩) (mk+1) c6) (mk+1) (st.take mk++[(i,1)])):=J (by unfold CZ;rw[Cw,EH,<-G1];exact dj.o);have kX:Hid ((w6.alloc (.cells #[.int .i64 (i:Int),.int .i64 1] 196)).ownsRow w.heap.size 196 2 (.slice A4 i c4) i (prC all)):=J (Ad cJ.o.1 (fun k _ hk=>Below.heap_alloc w6 _ k hk));have fM:=J (Bw w6 196 [.int .i64 (i:Int),.int .i64 1]);have eJ:Hid (i+1<=maxLen):=J (by unfold maxLen;omega);have dP:Hid ((i+1)*16<=140737488355328):=J (by omega);have kP:w.heap.size<=w6.heap.size:=Nat.le_trans bO cJ.o.2.2.size;have bv:Hid (w.heap.size<=(w6.alloc (.cells #[.int .i64 (i:Int),.int .i64 1] 196)).heap.size):=J (by simp;omega);clear ip p0 p1;go_wp2_with (at_builtin;go_must (refine wpList_append_lies _ rfl _ _ 192 rfl w.heap.size 196 i0 _ 2 16 Tryz.underlying192 hi aU hz1 a9 rfl (by decide) (.slice A4 i c4) i (prC all) rfl kX.o ⟨w6.heap.size,0,none⟩ 1 1 [.int .i64 (i:Int),.int .i64 1] rfl rfl fM.o (by simp[Value.oneCell']) (by decide) eJ.o dP.o bv.o _ rfl ?_;intro g7 c7 w7 aI co dy mi;have dh:=J (EF (u':= .slice (some ⟨g7,0,none⟩) (i+1) c7) cJ.o.1 cC.o (fun g h1 h2=>cJ.o.2.1 g h2 h1) ((Ext.refl w6).alloc _) kP co dy rfl);have tF:Hid (CZ w.heap.size w7 (.slice (some ⟨g7,0,none⟩) (i+1) c7) (i+1) (all++[(i,1)])):=J (by unfold CZ;rw[Cw,EH];exact aI);clear aI co dy));go_wp2_with fail;go_roundw
         case rel=>exact⟨i+1,_,_,by omega,by go_num,HI.o.next aQ.o lL.o tF.o dh.o.1 lc.o dh.o.2.1 ((HX.o.trans aE.o).more (cJ.o.2.2.trans dh.o.2.2)) (by have:=cT.o;exact this)⟩
         case measure=>simp[intOf];omega
      ·have aN:=J (ar.o (Iw aG (fun h=>hb2 h.2)));rw[aG]at aK;clear aG ar;go_wp2_with fail;refine(aK.o _).mono ?_
       rintro e w2 ⟨rfl,rfl⟩;go_wp2_with fail;refine(bF.o _ (k9.o.ext ax.o)).mono ?_
       rintro e w3 ⟨rfl,ae⟩;have q0:=(cG.o.ext ae).five;have kK:=(cG.o.ext ae).lt;have hJ:wr.heap.size<w3.heap.size+1:=by omega
       have g8:wr.heap.size<w3.heap.size+1+1:=by omega
       have g3:wr.heap.size<w3.heap.size+1+1+1:=by omega
       have aj:=J (ax.o.trans ae);clear ae;go_wp2_with fail;go_ret2;exact⟨_,by rw[aN.o];rfl,HX.o.trans (aj.o.trans ((((Ext.refl w3).alloc _).alloc _))),by rw[aN.o,i5.o];exact fi.o.ext (aj.o.trans ((((Ext.refl w3).alloc _).alloc _)))⟩
     ·have aN:=J (ar.o (Iw aG (fun h=>ha h.1)));rw[aG]at aK;clear aG ar;go_wp2_with fail;refine(aK.o _).mono ?_
      rintro e w2 ⟨rfl,rfl⟩;go_wp2_with fail;refine(bF.o _ (k9.o.ext ax.o)).mono ?_
      rintro e w3 ⟨rfl,ae⟩;have q0:=(cG.o.ext ae).five;have kK:=(cG.o.ext ae).lt;have hJ:wr.heap.size<w3.heap.size+1:=by omega
      have g8:wr.heap.size<w3.heap.size+1+1:=by omega
      have g3:wr.heap.size<w3.heap.size+1+1+1:=by omega
      have aj:=J (ax.o.trans ae);clear ae;go_wp2_with fail;go_ret2;exact⟨_,by rw[aN.o];rfl,HX.o.trans (aj.o.trans ((((Ext.refl w3).alloc _).alloc _))),by rw[aN.o,i5.o];exact fi.o.ext (aj.o.trans ((((Ext.refl w3).alloc _).alloc _)))⟩
   ·by_cases hmf:ms<1
    ·obtain rfl:ms=0:=by omega
     have aN:=J (ar.o (Jo (by rw[aG,<-kH.o];decide)));rw[aG]at aK;clear aG hp ar;go_wp2_with fail;refine(aK.o _).mono ?_
     rintro e w2 ⟨rfl,rfl⟩;go_wp2_with fail;go_ret2;exact⟨_,by rw[aN.o];rfl,HX.o.trans ax.o,by rw[aN.o,i5.o];exact fi.o.ext ax.o⟩
    ·have kO:1<=ms:=by omega
     have Yz:0<ms:=by omega
     have zq:¬(ms:Int)<1:=by omega
     cases hpb:p
     ·rw[hpb]at hp bF;have aN:=J (ar.o (Fg hp.symm));rw[aG]at aK;clear aG hp ar hpb;go_wp2_with fail;refine(aK.o _).mono ?_
      rintro e w2 ⟨rfl,rfl⟩;go_wp2_with fail;refine(bF.o _ (k9.o.ext ax.o)).mono ?_
      rintro e w3 ⟨rfl,ae⟩;have q0:=(cG.o.ext ae).five;have kK:=(cG.o.ext ae).lt;have hJ:wr.heap.size<w3.heap.size+1:=by omega
      have g8:wr.heap.size<w3.heap.size+1+1:=by omega
      have g3:wr.heap.size<w3.heap.size+1+1+1:=by omega
      have aj:=J (ax.o.trans ae);clear ae;go_wp2_with fail;go_ret2;exact⟨_,by rw[aN.o];rfl,HX.o.trans aj.o,by rw[aN.o,i5.o];exact fi.o.ext aj.o⟩
     ·rw[hpb]at hp bF;have wV:=J hp.symm;clear hpb hp;obtain⟨g5,d5,he5,so,rW⟩:=ec.o.form (by omega);injection he5 with he5 hx5 hy5
      subst he5;clear hx5 hy5;obtain⟨z1,gX⟩:∃z1:Int,z1=(ms:Int)-1:=⟨_,rfl⟩;have pK:z1.toNat=ms-1:=by omega
      have yO:IntKind.i64.wrap ((ms:Int)-1)=z1:=by rw[IntWalk.i64_in _ (by omega),gX]
      have yJ:(0:Int)<=z1:=by omega
      have yI:z1<(ms:Int):=by omega
      obtain⟨f1,eC⟩:∃f1,f1=(st.getD (ms-1) (0,0)).1:=⟨_,rfl⟩;obtain⟨d1,cx⟩:∃d1,d1=(st.getD (ms-1) (0,0)).2:=⟨_,rfl⟩;have rU:=td.o (ms-1) (by omega);rw[<-eC,<-cx]at rU;have lm:Hid (∀W,CZ w.heap.size W (.slice (some ⟨g5,0,none⟩) ms c5) ms st->W.cell? ⟨g5,z1.toNat*2,none⟩=some (.int .i64 (f1:Int))/\W.cell? ⟨g5,z1.toNat*2+1,none⟩=some (.int .i64 (d1:Int))):=J (fun W h=>by rw[pK,eC,cx];exact h.get (ms-1) (by omega));have qj:=J eC;have js:=J cx;obtain⟨zi,oS⟩:∃zi:Int,zi=(i:Int)-1:=⟨_,rfl⟩;have yN:IntKind.i64.wrap ((i:Int)-1)=zi:=by rw[IntWalk.i64_in _ (by omega),oS]
      have sC:=J oS;have rA:IntKind.i64.wrap ((d1:Int)+1)=((d1+1:Nat):Int):=by rw[IntWalk.i64_in _ (by omega)];omega
      obtain⟨e1,he1⟩:∃e1,e1=d1+1:=⟨_,rfl⟩;rw[<-he1]at rA;have iT:=J he1;have sD:=J gX;clear eC cx oS he1 gX pK;by_cases ha:na=zi
      ·subst ha;by_cases hb2:nb=0
       ·subst hb2;have eG:Hid (AP i st ⟨kd,na,0,nn,nt⟩=some ((f1,e1),st.take (ms-1)++[(f1,e1)])):=J (by
         have h:=Ro (i:=i) (st:=st) (n:=nn) (t:=nt) aG (by rw[<-sC.o];exact wV.o) (by rw[<-kH.o];omega);rw[<-sC.o,<-kH.o,<-qj.o,<-js.o,<-iT.o]at h;exact h)
        have cT:Hid (f1<=i+1/\e1<=i+1):=J ⟨by omega,by rw[iT.o];omega⟩;have YT:e1<=1000002:=by rw[iT.o];omega
        rw[aG]at aK;clear aG ar;go_wp2_with fail;refine(aK.o _).mono ?_
        rintro e w2 ⟨rfl,rfl⟩;go_wp2_with fail;refine(bF.o _ (k9.o.ext ax.o)).mono ?_
        rintro e w3 ⟨rfl,ae⟩;have q0:=(cG.o.ext ae).five;have kK:=(cG.o.ext ae).lt;have hJ:wr.heap.size<w3.heap.size+1:=by omega
        have g8:wr.heap.size<w3.heap.size+1+1:=by omega
        have g3:wr.heap.size<w3.heap.size+1+1+1:=by omega
        have aj:=J (ax.o.trans ae);clear ae;have nT:=(AY (ec.o.ext aj.o) g5 rfl).2;have nW:g5<w3.heap.size+1:=by omega
        have nV:g5<w3.heap.size+1+1:=by omega
        have nU:g5<w3.heap.size+1+1+1:=by omega
        obtain⟨wt,ws⟩:=lm.o w3 (ec.o.ext aj.o);go_upto_region 20 with fail;have tS:ms<=c5:=by
         rcases ec.o.2 with ⟨he,h0⟩|⟨Zu,wn,wm,he,_,_,tS,_⟩
         ·cases he
         ·injection he with he1 he2 he3;rw[he3];exact tS
        obtain⟨w4,hw4⟩:∃w4,w4=((w3.alloc (.cells #[.int .i64 (f1:Int),.int .i64 (e1:Int)] 196)).alloc (.cells #[.int .i64 kd,.int .i64 na,.int .i64 0,.int .i64 nn,.string s] 95)).alloc (.cells #[.int .i64 (f1:Int),.int .i64 (d1:Int)] 196):=⟨_,rfl⟩;rw[<-hw4];have gZ:Ext w3 w4:=by rw[hw4];exact((((Ext.refl w3).alloc _).alloc _).alloc _)
        have jj:Blk w4 w3.heap.size 196 #[.int .i64 (f1:Int),.int .i64 (e1:Int)]:=by rw[hw4];exact(((Blk.new w3 _ _).alloc _).alloc _)
        have aE:=J (aj.o.trans gZ);have tB:=J jj;obtain⟨p0,p1⟩:=jj.two';obtain⟨mk,dZ⟩:∃mk,mk=ms-1:=⟨_,rfl⟩;have ug:z1<=(c5:Int):=by have:=sD.o;omega
        have nm:z1.toNat=mk:=by have:=sD.o;omega
        have bO:w.heap.size<=w4.heap.size:=Nat.le_trans HX.o.size aE.o.size;have cp:=J (Ds (m:=mk) (ec.o.ext aE.o) (by omega));have i7:=J (fi.o.ext aE.o);have kU:=jj.lt;have sc:wr.heap.size<=w3.heap.size:=aj.o.size;have lc:Hid (mk<=st.length):=J (by rw[<-kH.o];omega);have lL:Hid (AP i st ⟨kd,na,0,nn,nt⟩=some ((f1,e1),st.take mk++[(f1,e1)])):=J (by rw[dZ];exact eG.o);have cZ:Hid ((w4.alloc (.cells #[.int .i64 (f1:Int),.int .i64 (e1:Int)] 196)).drew.ownsRow w.heap.size 196 2 (.slice (some ⟨g5,0,none⟩) mk c5) mk ((prC st).take (mk*2))):=J (Ad cp.o (fun k _ hk=>Below.heap_alloc w4 _ k hk));have bC:Hid (∀(j:Nat) (u:Value),[Value.int .i64 (f1:Int),Value.int .i64 (e1:Int)][j]? =some u->(w4.alloc (.cells #[.int .i64 (f1:Int),.int .i64 (e1:Int)] 196)).drew.cell? ((⟨w4.heap.size,0,none⟩:Addr).add j)=some u):=J (Bw w4 196 [.int .i64 (f1:Int),.int .i64 (e1:Int)]);have aM:Hid (mk+1<=maxLen):=J (by unfold maxLen;omega);have aP:Hid ((mk+1)*16<=140737488355328):=J (by omega);have aD:Hid (w.heap.size<=(w4.alloc (.cells #[.int .i64 (f1:Int),.int .i64 (e1:Int)] 196)).drew.heap.size):=J (by simp;omega);clear hw4 jj gZ dZ q0
        go_region_law (refine step_append_lies _ rfl (.tmp 96) (.tmp 98) 192 rfl w.heap.size 196 i0 _ 2 16 Tryz.underlying192 hi aU hz1 a9 rfl (by decide) _ mk ((prC st).take (mk*2)) rfl cZ.o ⟨w4.heap.size,0,none⟩ 1 1 [.int .i64 (f1:Int),.int .i64 (e1:Int)] rfl rfl bC.o (by simp[Value.oneCell']) (by decide) aM.o aP.o aD.o _ rfl ?_;intro g6 c6 w6 aT bM bR ey;have dj:=J aT;have ix:=J bM;have lp:=J bR;clear aT bM bR)
        all_goals
         have ah:Hid (Ext w4 (w4.alloc (.cells #[.int .i64 (f1:Int),.int .i64 (e1:Int)] 196)).drew):=J ((Ext.refl w4).alloc _).drew;have cJ:=J (EF (u':= .slice (some ⟨g6,0,none⟩) (mk+1) c6) cp.o i7.o (fun g h1 h2=>HI.o.apart g h2 h1) ah.o bO ix.o lp.o rfl);have ip:Blk w6 w3.heap.size 196 #[.int .i64 (f1:Int),.int .i64 (e1:Int)]:=(ix.o.block w3.heap.size (Nat.lt_of_lt_of_le kU ah.o.size) (by intro he;have he2:w3.heap.size=g5:=Option.some.inj he;have:=(AY ec.o g5 rfl).2;omega)).trans (tB.o.ext ah.o);obtain⟨y0,y1⟩:=ip.two';have cC:Hid (CZ w.heap.size w6 (.slice (some ⟨g6,0,none⟩) (mk+1) c6) (mk+1) (st.take mk++[(f1,e1)])):=J (by unfold CZ;rw[Cw,EH,<-G1];exact dj.o);have kX:Hid ((w6.alloc (.cells #[.int .i64 (f1:Int),.int .i64 (e1:Int)] 196)).ownsRow w.heap.size 196 2 (.slice A4 i c4) i (prC all)):=J (Ad cJ.o.1 (fun k _ hk=>Below.heap_alloc w6 _ k hk));have fM:=J (Bw w6 196 [.int .i64 (f1:Int),.int .i64 (e1:Int)]);have eJ:Hid (i+1<=maxLen):=J (by unfold maxLen;omega);have dP:Hid ((i+1)*16<=140737488355328):=J (by omega);have kP:w.heap.size<=w6.heap.size:=Nat.le_trans bO cJ.o.2.2.size;have bv:Hid (w.heap.size<=(w6.alloc (.cells #[.int .i64 (f1:Int),.int .i64 (e1:Int)] 196)).heap.size):=J (by simp;omega);clear ip p0 p1;go_wp2_with (at_builtin;go_must (refine wpList_append_lies _ rfl _ _ 192 rfl w.heap.size 196 i0 _ 2 16 Tryz.underlying192 hi aU hz1 a9 rfl (by decide) (.slice A4 i c4) i (prC all) rfl kX.o ⟨w6.heap.size,0,none⟩ 1 1 [.int .i64 (f1:Int),.int .i64 (e1:Int)] rfl rfl fM.o (by simp[Value.oneCell']) (by decide) eJ.o dP.o bv.o _ rfl ?_;intro g7 c7 w7 aI co dy mi;have dh:=J (EF (u':= .slice (some ⟨g7,0,none⟩) (i+1) c7) cJ.o.1 cC.o (fun g h1 h2=>cJ.o.2.1 g h2 h1) ((Ext.refl w6).alloc _) kP co dy rfl);have tF:Hid (CZ w.heap.size w7 (.slice (some ⟨g7,0,none⟩) (i+1) c7) (i+1) (all++[(f1,e1)])):=J (by unfold CZ;rw[Cw,EH];exact aI);clear aI co dy));go_wp2_with fail;go_roundw
         case rel=>exact⟨i+1,_,_,by omega,by go_num,HI.o.next aQ.o lL.o tF.o dh.o.1 lc.o dh.o.2.1 ((HX.o.trans aE.o).more (cJ.o.2.2.trans dh.o.2.2)) (by have:=cT.o;exact this)⟩
         case measure=>simp[intOf];omega
       ·have aN:=J (ar.o (Iv aG (fun h=>hb2 h.2)));rw[aG]at aK;clear aG ar;go_wp2_with fail;refine(aK.o _).mono ?_
        rintro e w2 ⟨rfl,rfl⟩;go_wp2_with fail;refine(bF.o _ (k9.o.ext ax.o)).mono ?_
        rintro e w3 ⟨rfl,ae⟩;have q0:=(cG.o.ext ae).five;have kK:=(cG.o.ext ae).lt;have hJ:wr.heap.size<w3.heap.size+1:=by omega
        have g8:wr.heap.size<w3.heap.size+1+1:=by omega
        have g3:wr.heap.size<w3.heap.size+1+1+1:=by omega
        have aj:=J (ax.o.trans ae);clear ae;have nT:=(AY (ec.o.ext aj.o) g5 rfl).2;have nW:g5<w3.heap.size+1:=by omega
        have nV:g5<w3.heap.size+1+1:=by omega
        have nU:g5<w3.heap.size+1+1+1:=by omega
        obtain⟨wt,ws⟩:=lm.o w3 (ec.o.ext aj.o);go_wp2_with fail;go_ret2;exact⟨_,by rw[aN.o];rfl,HX.o.trans (aj.o.trans (((((Ext.refl w3).alloc _).alloc _).alloc _))),by rw[aN.o,i5.o];exact fi.o.ext (aj.o.trans (((((Ext.refl w3).alloc _).alloc _).alloc _)))⟩
      ·have aN:=J (ar.o (Iv aG (fun h=>ha (h.1.trans sC.o.symm))));rw[aG]at aK;clear aG ar;go_wp2_with fail;refine(aK.o _).mono ?_
       rintro e w2 ⟨rfl,rfl⟩;go_wp2_with fail;refine(bF.o _ (k9.o.ext ax.o)).mono ?_
       rintro e w3 ⟨rfl,ae⟩;have q0:=(cG.o.ext ae).five;have kK:=(cG.o.ext ae).lt;have hJ:wr.heap.size<w3.heap.size+1:=by omega
       have g8:wr.heap.size<w3.heap.size+1+1:=by omega
       have g3:wr.heap.size<w3.heap.size+1+1+1:=by omega
       have aj:=J (ax.o.trans ae);clear ae;have nT:=(AY (ec.o.ext aj.o) g5 rfl).2;have nW:g5<w3.heap.size+1:=by omega
       have nV:g5<w3.heap.size+1+1:=by omega
       have nU:g5<w3.heap.size+1+1+1:=by omega
       obtain⟨wt,ws⟩:=lm.o w3 (ec.o.ext aj.o);go_wp2_with fail;go_ret2;exact⟨_,by rw[aN.o];rfl,HX.o.trans (aj.o.trans (((((Ext.refl w3).alloc _).alloc _).alloc _))),by rw[aN.o,i5.o];exact fi.o.ext (aj.o.trans (((((Ext.refl w3).alloc _).alloc _).alloc _)))⟩
   ·by_cases hmf:ms<2
    ·have tR:decide (ms<2)=true:=decide_eq_true hmf;have aN:=J (ar.o (Jo (by rw[aG,<-kH.o];omega)));have zI:((ms:Int)<2):=by omega
     rw[aG]at aK;clear aG hp ar;go_wp2_with fail;refine(aK.o _).mono ?_
     rintro e w2 ⟨rfl,rfl⟩;go_wp2_with fail;go_ret2;exact⟨_,by rw[aN.o];rfl,HX.o.trans ax.o,by rw[aN.o,i5.o];exact fi.o.ext ax.o⟩
    ·have kO:2<=ms:=by omega
     have Yy:decide (ms<2)=false:=decide_eq_false hmf;have zq:¬(ms:Int)<2:=by omega
     cases hpb:p
     ·rw[hpb]at hp bF;have aN:=J (ar.o (Fg hp.symm));rw[aG]at aK;clear aG hp ar hpb;go_wp2_with fail;refine(aK.o _).mono ?_
      rintro e w2 ⟨rfl,rfl⟩;go_wp2_with fail;refine(bF.o _ (k9.o.ext ax.o)).mono ?_
      rintro e w3 ⟨rfl,ae⟩;have q0:=(cG.o.ext ae).five;have kK:=(cG.o.ext ae).lt;have hJ:wr.heap.size<w3.heap.size+1:=by omega
      have g8:wr.heap.size<w3.heap.size+1+1:=by omega
      have g3:wr.heap.size<w3.heap.size+1+1+1:=by omega
      have aj:=J (ax.o.trans ae);clear ae;go_wp2_with fail;go_ret2;exact⟨_,by rw[aN.o];rfl,HX.o.trans aj.o,by rw[aN.o,i5.o];exact fi.o.ext aj.o⟩
     ·rw[hpb]at hp bF;have wV:=J hp.symm;clear hpb hp;obtain⟨g5,d5,he5,so,rW⟩:=ec.o.form (by omega);injection he5 with he5 hx5 hy5
      subst he5;clear hx5 hy5;obtain⟨z1,gX⟩:∃z1:Int,z1=(ms:Int)-1:=⟨_,rfl⟩;have pK:z1.toNat=ms-1:=by omega
      have yO:IntKind.i64.wrap ((ms:Int)-1)=z1:=by rw[IntWalk.i64_in _ (by omega),gX]
      have yJ:(0:Int)<=z1:=by omega
      have yI:z1<(ms:Int):=by omega
      obtain⟨f1,eC⟩:∃f1,f1=(st.getD (ms-1) (0,0)).1:=⟨_,rfl⟩;obtain⟨d1,cx⟩:∃d1,d1=(st.getD (ms-1) (0,0)).2:=⟨_,rfl⟩;have rU:=td.o (ms-1) (by omega);rw[<-eC,<-cx]at rU;have lm:Hid (∀W,CZ w.heap.size W (.slice (some ⟨g5,0,none⟩) ms c5) ms st->W.cell? ⟨g5,z1.toNat*2,none⟩=some (.int .i64 (f1:Int))/\W.cell? ⟨g5,z1.toNat*2+1,none⟩=some (.int .i64 (d1:Int))):=J (fun W h=>by rw[pK,eC,cx];exact h.get (ms-1) (by omega));have qj:=J eC;have js:=J cx;obtain⟨zi,oS⟩:∃zi:Int,zi=(i:Int)-1:=⟨_,rfl⟩;have yN:IntKind.i64.wrap ((i:Int)-1)=zi:=by rw[IntWalk.i64_in _ (by omega),oS]
      have sC:=J oS;have rA:IntKind.i64.wrap ((d1:Int)+1)=((d1+1:Nat):Int):=by rw[IntWalk.i64_in _ (by omega)];omega
      obtain⟨e1,he1⟩:∃e1,e1=d1+1:=⟨_,rfl⟩;rw[<-he1]at rA;have iT:=J he1;have sD:=J gX;clear eC cx oS he1 gX pK;obtain⟨z2,np⟩:∃z2:Int,z2=(ms:Int)-2:=⟨_,rfl⟩;have qE:z2.toNat=ms-2:=by omega
      have XQ:IntKind.i64.wrap ((ms:Int)-2)=z2:=by rw[IntWalk.i64_in _ (by omega),np]
      have XH:(0:Int)<=z2:=by omega
      have XG:z2<(ms:Int):=by omega
      obtain⟨f2,o7⟩:∃f2,f2=(st.getD (ms-2) (0,0)).1:=⟨_,rfl⟩;obtain⟨d2,ba⟩:∃d2,d2=(st.getD (ms-2) (0,0)).2:=⟨_,rfl⟩;have rT:=td.o (ms-2) (by omega);rw[<-o7,<-ba]at rT;have tw:Hid (∀W,CZ w.heap.size W (.slice (some ⟨g5,0,none⟩) ms c5) ms st->W.cell? ⟨g5,z2.toNat*2,none⟩=some (.int .i64 (f2:Int))/\W.cell? ⟨g5,z2.toNat*2+1,none⟩=some (.int .i64 (d2:Int))):=J (fun W h=>by rw[qE,o7,ba];exact h.get (ms-2) (by omega));have HF2:=J o7;have lX:=J ba;have yR:IntKind.i64.wrap ((d2:Int)+1)=((d2+1:Nat):Int):=by rw[IntWalk.i64_in _ (by omega)];omega
      obtain⟨e2,he2⟩:∃e2,e2=d2+1:=⟨_,rfl⟩;rw[<-he2]at yR;have iA:=J he2;obtain⟨mx,ve⟩:∃mx,mx=max e1 e2:=⟨_,rfl⟩;have gP:max (e1:Int) (e2:Int)=(mx:Int):=by omega
      have sY:=J ve;obtain⟨zf,yG⟩:∃zf:Int,zf=(f1:Int)-1:=⟨_,rfl⟩;have XO:IntKind.i64.wrap ((f1:Int)-1)=zf:=by rw[IntWalk.i64_in _ (by omega),yG]
      have UG:=J yG;have wv:=J np;clear o7 ba he2 np qE ve yG;by_cases ha:na=zf
      ·subst ha;by_cases hb2:nb=zi
       ·subst hb2;have eG:Hid (AP i st ⟨kd,na,nb,nn,nt⟩=some ((f2,mx),st.take (ms-2)++[(f2,mx)])):=J (by
         have h:=Rn (i:=i) (st:=st) (n:=nn) (t:=nt) aG (by rw[<-kH.o,<-qj.o,<-UG.o,<-sC.o];exact wV.o) (by rw[<-kH.o];omega);rw[<-kH.o,<-qj.o,<-UG.o,<-sC.o,<-HF2.o,<-js.o,<-lX.o,<-iT.o,<-iA.o,<-sY.o]at h;exact h)
        have cT:Hid (f2<=i+1/\mx<=i+1):=J ⟨by omega,by rw[sY.o,iT.o,iA.o];omega⟩;have Yo:mx<=1000002:=by rw[sY.o,iT.o,iA.o];omega
        rw[aG]at aK;clear aG ar;go_wp2_with fail;refine(aK.o _).mono ?_
        rintro e w2 ⟨rfl,rfl⟩;go_wp2_with fail;refine(bF.o _ (k9.o.ext ax.o)).mono ?_
        rintro e w3 ⟨rfl,ae⟩;have q0:=(cG.o.ext ae).five;have kK:=(cG.o.ext ae).lt;have hJ:wr.heap.size<w3.heap.size+1:=by omega
        have g8:wr.heap.size<w3.heap.size+1+1:=by omega
        have g3:wr.heap.size<w3.heap.size+1+1+1:=by omega
        have aj:=J (ax.o.trans ae);clear ae;have nT:=(AY (ec.o.ext aj.o) g5 rfl).2;have nW:g5<w3.heap.size+1:=by omega
        have nV:g5<w3.heap.size+1+1:=by omega
        have nU:g5<w3.heap.size+1+1+1:=by omega
        obtain⟨wt,ws⟩:=lm.o w3 (ec.o.ext aj.o);obtain⟨WO,WN⟩:=tw.o w3 (ec.o.ext aj.o);go_upto_region 20 with fail;have tS:ms<=c5:=by
         rcases ec.o.2 with ⟨he,h0⟩|⟨Zu,wn,wm,he,_,_,tS,_⟩
         ·cases he
         ·injection he with he1 he2 he3;rw[he3];exact tS
        obtain⟨w4,hw4⟩:∃w4,w4=(((w3.alloc (.cells #[.int .i64 (f2:Int),.int .i64 (mx:Int)] 196)).alloc (.cells #[.int .i64 kd,.int .i64 na,.int .i64 nb,.int .i64 nn,.string s] 95)).alloc (.cells #[.int .i64 (f1:Int),.int .i64 (d1:Int)] 196)).alloc (.cells #[.int .i64 (f2:Int),.int .i64 (d2:Int)] 196):=⟨_,rfl⟩;rw[<-hw4];have gZ:Ext w3 w4:=by rw[hw4];exact(((((Ext.refl w3).alloc _).alloc _).alloc _).alloc _)
        have jj:Blk w4 w3.heap.size 196 #[.int .i64 (f2:Int),.int .i64 (mx:Int)]:=by rw[hw4];exact((((Blk.new w3 _ _).alloc _).alloc _).alloc _)
        have aE:=J (aj.o.trans gZ);have tB:=J jj;obtain⟨p0,p1⟩:=jj.two';obtain⟨mk,dZ⟩:∃mk,mk=ms-2:=⟨_,rfl⟩;have ug:z2<=(c5:Int):=by have:=wv.o;omega
        have nm:z2.toNat=mk:=by have:=wv.o;omega
        have bO:w.heap.size<=w4.heap.size:=Nat.le_trans HX.o.size aE.o.size;have cp:=J (Ds (m:=mk) (ec.o.ext aE.o) (by omega));have i7:=J (fi.o.ext aE.o);have kU:=jj.lt;have sc:wr.heap.size<=w3.heap.size:=aj.o.size;have lc:Hid (mk<=st.length):=J (by rw[<-kH.o];omega);have lL:Hid (AP i st ⟨kd,na,nb,nn,nt⟩=some ((f2,mx),st.take mk++[(f2,mx)])):=J (by rw[dZ];exact eG.o);have cZ:Hid ((w4.alloc (.cells #[.int .i64 (f2:Int),.int .i64 (mx:Int)] 196)).drew.ownsRow w.heap.size 196 2 (.slice (some ⟨g5,0,none⟩) mk c5) mk ((prC st).take (mk*2))):=J (Ad cp.o (fun k _ hk=>Below.heap_alloc w4 _ k hk));have bC:Hid (∀(j:Nat) (u:Value),[Value.int .i64 (f2:Int),Value.int .i64 (mx:Int)][j]? =some u->(w4.alloc (.cells #[.int .i64 (f2:Int),.int .i64 (mx:Int)] 196)).drew.cell? ((⟨w4.heap.size,0,none⟩:Addr).add j)=some u):=J (Bw w4 196 [.int .i64 (f2:Int),.int .i64 (mx:Int)]);have aM:Hid (mk+1<=maxLen):=J (by unfold maxLen;omega);have aP:Hid ((mk+1)*16<=140737488355328):=J (by omega);have aD:Hid (w.heap.size<=(w4.alloc (.cells #[.int .i64 (f2:Int),.int .i64 (mx:Int)] 196)).drew.heap.size):=J (by simp;omega);clear hw4 jj gZ dZ q0
        go_region_law (refine step_append_lies _ rfl (.tmp 96) (.tmp 98) 192 rfl w.heap.size 196 i0 _ 2 16 Tryz.underlying192 hi aU hz1 a9 rfl (by decide) _ mk ((prC st).take (mk*2)) rfl cZ.o ⟨w4.heap.size,0,none⟩ 1 1 [.int .i64 (f2:Int),.int .i64 (mx:Int)] rfl rfl bC.o (by simp[Value.oneCell']) (by decide) aM.o aP.o aD.o _ rfl ?_;intro g6 c6 w6 aT bM bR ey;have dj:=J aT;have ix:=J bM;have lp:=J bR;clear aT bM bR)
        all_goals
         have ah:Hid (Ext w4 (w4.alloc (.cells #[.int .i64 (f2:Int),.int .i64 (mx:Int)] 196)).drew):=J ((Ext.refl w4).alloc _).drew;have cJ:=J (EF (u':= .slice (some ⟨g6,0,none⟩) (mk+1) c6) cp.o i7.o (fun g h1 h2=>HI.o.apart g h2 h1) ah.o bO ix.o lp.o rfl);have ip:Blk w6 w3.heap.size 196 #[.int .i64 (f2:Int),.int .i64 (mx:Int)]:=(ix.o.block w3.heap.size (Nat.lt_of_lt_of_le kU ah.o.size) (by intro he;have he2:w3.heap.size=g5:=Option.some.inj he;have:=(AY ec.o g5 rfl).2;omega)).trans (tB.o.ext ah.o);obtain⟨y0,y1⟩:=ip.two';have cC:Hid (CZ w.heap.size w6 (.slice (some ⟨g6,0,none⟩) (mk+1) c6) (mk+1) (st.take mk++[(f2,mx)])):=J (by unfold CZ;rw[Cw,EH,<-G1];exact dj.o);have kX:Hid ((w6.alloc (.cells #[.int .i64 (f2:Int),.int .i64 (mx:Int)] 196)).ownsRow w.heap.size 196 2 (.slice A4 i c4) i (prC all)):=J (Ad cJ.o.1 (fun k _ hk=>Below.heap_alloc w6 _ k hk));have fM:=J (Bw w6 196 [.int .i64 (f2:Int),.int .i64 (mx:Int)]);have eJ:Hid (i+1<=maxLen):=J (by unfold maxLen;omega);have dP:Hid ((i+1)*16<=140737488355328):=J (by omega);have kP:w.heap.size<=w6.heap.size:=Nat.le_trans bO cJ.o.2.2.size;have bv:Hid (w.heap.size<=(w6.alloc (.cells #[.int .i64 (f2:Int),.int .i64 (mx:Int)] 196)).heap.size):=J (by simp;omega);clear ip p0 p1;go_wp2_with (at_builtin;go_must (refine wpList_append_lies _ rfl _ _ 192 rfl w.heap.size 196 i0 _ 2 16 Tryz.underlying192 hi aU hz1 a9 rfl (by decide) (.slice A4 i c4) i (prC all) rfl kX.o ⟨w6.heap.size,0,none⟩ 1 1 [.int .i64 (f2:Int),.int .i64 (mx:Int)] rfl rfl fM.o (by simp[Value.oneCell']) (by decide) eJ.o dP.o bv.o _ rfl ?_;intro g7 c7 w7 aI co dy mi;have dh:=J (EF (u':= .slice (some ⟨g7,0,none⟩) (i+1) c7) cJ.o.1 cC.o (fun g h1 h2=>cJ.o.2.1 g h2 h1) ((Ext.refl w6).alloc _) kP co dy rfl);have tF:Hid (CZ w.heap.size w7 (.slice (some ⟨g7,0,none⟩) (i+1) c7) (i+1) (all++[(f2,mx)])):=J (by unfold CZ;rw[Cw,EH];exact aI);clear aI co dy));go_wp2_with fail;go_roundw
         case rel=>exact⟨i+1,_,_,by omega,by go_num,HI.o.next aQ.o lL.o tF.o dh.o.1 lc.o dh.o.2.1 ((HX.o.trans aE.o).more (cJ.o.2.2.trans dh.o.2.2)) (by have:=cT.o;exact this)⟩
         case measure=>simp[intOf];omega
       ·have aN:=J (ar.o (Iu aG (fun h=>hb2 (h.2.trans sC.o.symm))));rw[aG]at aK;clear aG ar;go_wp2_with fail;refine(aK.o _).mono ?_
        rintro e w2 ⟨rfl,rfl⟩;go_wp2_with fail;refine(bF.o _ (k9.o.ext ax.o)).mono ?_
        rintro e w3 ⟨rfl,ae⟩;have q0:=(cG.o.ext ae).five;have kK:=(cG.o.ext ae).lt;have hJ:wr.heap.size<w3.heap.size+1:=by omega
        have g8:wr.heap.size<w3.heap.size+1+1:=by omega
        have g3:wr.heap.size<w3.heap.size+1+1+1:=by omega
        have aj:=J (ax.o.trans ae);clear ae;have nT:=(AY (ec.o.ext aj.o) g5 rfl).2;have nW:g5<w3.heap.size+1:=by omega
        have nV:g5<w3.heap.size+1+1:=by omega
        have nU:g5<w3.heap.size+1+1+1:=by omega
        obtain⟨wt,ws⟩:=lm.o w3 (ec.o.ext aj.o);obtain⟨WO,WN⟩:=tw.o w3 (ec.o.ext aj.o);go_wp2_with fail;go_ret2;exact⟨_,by rw[aN.o];rfl,HX.o.trans (aj.o.trans ((((((Ext.refl w3).alloc _).alloc _).alloc _).alloc _))),by rw[aN.o,i5.o];exact fi.o.ext (aj.o.trans ((((((Ext.refl w3).alloc _).alloc _).alloc _).alloc _)))⟩
      ·have aN:=J (ar.o (Iu aG (fun h=>ha (h.1.trans (by rw[<-kH.o,<-qj.o];exact UG.o.symm)))));rw[aG]at aK;clear aG ar;go_wp2_with fail;refine(aK.o _).mono ?_
       rintro e w2 ⟨rfl,rfl⟩;go_wp2_with fail;refine(bF.o _ (k9.o.ext ax.o)).mono ?_
       rintro e w3 ⟨rfl,ae⟩;have q0:=(cG.o.ext ae).five;have kK:=(cG.o.ext ae).lt;have hJ:wr.heap.size<w3.heap.size+1:=by omega
       have g8:wr.heap.size<w3.heap.size+1+1:=by omega
       have g3:wr.heap.size<w3.heap.size+1+1+1:=by omega
       have aj:=J (ax.o.trans ae);clear ae;have nT:=(AY (ec.o.ext aj.o) g5 rfl).2;have nW:g5<w3.heap.size+1:=by omega
       have nV:g5<w3.heap.size+1+1:=by omega
       have nU:g5<w3.heap.size+1+1+1:=by omega
       obtain⟨wt,ws⟩:=lm.o w3 (ec.o.ext aj.o);obtain⟨WO,WN⟩:=tw.o w3 (ec.o.ext aj.o);go_wp2_with fail;go_ret2;exact⟨_,by rw[aN.o];rfl,HX.o.trans (aj.o.trans ((((((Ext.refl w3).alloc _).alloc _).alloc _).alloc _))),by rw[aN.o,i5.o];exact fi.o.ext (aj.o.trans ((((((Ext.refl w3).alloc _).alloc _).alloc _).alloc _)))⟩
  ·obtain rfl:i=n:=by omega
   have lE:=aJ.go;rw[List.drop_eq_nil_of_le (by rw[<-HN.o];exact Nat.le_refl _),GJ,<-kH.o]at lE;have dD:=J lE;have HX:=J aJ.ext;have fi:=J aJ.ra;have i5:=J aJ.ra.len;clear aJ lE;go_wp2_with fail;go_ret2;exact⟨_,by rw[dD.o];rfl,HX.o,by rw[dD.o,i5.o];exact fi.o⟩
end Big
end Go.Proofs.YtkoaogkknnelaaaGreatDoor
