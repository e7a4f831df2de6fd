import Derived.Test.YtkoaogkknnelaaaGreatDoorM35
import Derived.Laws.Cover1
set_option linter.unusedVariables false
set_option linter.unusedSimpArgs false
set_option maxHeartbeats 16000000
set_option maxRecDepth 100000
namespace Go.Proofs.YtkoaogkknnelaaaGreatDoor
namespace Big
open Lib renaming hid → J
open Go.RowKit Go.Maps Go.Sort
def D8(ns:List Nd)(env:Env)(w:World)(e:Ending)(w':World):Prop:=∃d:Bool,e= .returned (.bool d)/\(d=true↔Bv ns env)/\Ext w w'
theorem MX{a b:Tx}{s u:ByteArray}(h1:str a= .string s)(h2:str b= .string u):Op.bytesLess s.toList u.toList=decide (a<b):=by
 have e1:s=⟨a.toArray⟩:=by
  unfold str at h1;injection h1 with h1
  exact h1.symm
 have e2:u=⟨b.toArray⟩:=by
  unfold str at h2;injection h2 with h2
  exact h2.symm
 rw[e1,e2,ByteArray.toList_mk,ByteArray.toList_mk,EL]
theorem Ig(B g b:Nat)(w:World)(ns:List Nd)(nv:Value)(h:GrP B g b w ns nv)(v:Value)(env:Env)(he:RdE w v env)(hn:env.length<=100000)(dy:TxE env):
  Calls Tryz.prog 34 #[.pointer (some ⟨g,0,none⟩),v] w (D8 ns env w):=by
 have HG:=J h;have re:=J he;have fb:=J dy;have iO:=J (fun W (hx:Ext w W) z=>JG B g b W ns nv (HG.o.keep hx) z);obtain⟨A,c,rfl,bj⟩:=he;have cw:=J bj;obtain⟨n,bB⟩:∃n,n=env.length:=⟨_,rfl⟩;have HN:=J bB;unfold D8;clear h bj dy;by_cases hfew:env.length<=64;rotate_left
 ·have HB:=J (PB (ns:=ns) hfew);have hd:decide ((n:Int)>64)=true:=decide_eq_true (by omega);have bE:(64:Int)<(n:Int):=by omega
  rw[<-bB]at hn re ⊢;clear bB hfew bE;go_enter Tryz.func34,Tryz.ntmps34;go_wp2_with fail;go_ret;exact⟨false,rfl,⟨(fun h=>by cases h),fun h=>absurd h HB.o⟩,Ext.refl w⟩
 have uD:=J hfew;have hd:decide ((n:Int)>64)=false:=decide_eq_false (by omega);have bE:¬(64:Int)<(n:Int):=by omega
 have U6:n<=64:=by omega
 rw[<-bB]at hn re ⊢;clear bB hfew bE;go_enter Tryz.func34,Tryz.ntmps34;go_wp2_with fail;go_loopw [5,18] (fun _ s18 wr=>∃k:Nat,k<=n/\s18= .int .i64 (k:Int)/\Fu ns env k/\Ext w wr) (fun _ s18 _=>n-(intOf s18).toNat)
 case atStart=>exact⟨0,qal _,rfl,Fu.start ns env,Ext.refl w⟩
 case round=>
  clear hd;obtain⟨k,hk,rfl,hs,hx⟩:=hrel;have HS:=J hs;have HX:=J hx;clear hs;by_cases hlt:k<n
  ·have bT:k<env.length:=by rw[<-HN.o];exact hlt
   have fK:=cw.o (by rw[<-HN.o];omega);obtain⟨gb,o,rfl,bC,hc⟩:=fK;obtain⟨p0,p1⟩:=hc k bT;rw[<-hx.cell bC]at p0 p1;have g3:(0:Int)<=(k:Int):=by omega
   have oC:(k:Int)<(n:Int):=by omega
   have jn:IntKind.i64.wrap ((k:Int)+1)=(k:Int)+1:=IntWalk.i64_in _ (by omega);have aP:=J (fun h1 h2 h3=>HS.o.step bT h1 h2 h3);have cO:=J (No (ns:=ns) bT);have cP:=J (Nn (ns:=ns) bT);have mV:=J (fb.o _ (qap bT));have fX:Hid (k=0\/∃p,k=p+1/\∃hp:p<env.length,w.cell? ⟨gb,o+p*2,none⟩=some (str env[p].1)/\(env[p].1<env[k].1->Eu (env.take (k+1)))/\(¬env[p].1<env[k].1->¬Bv ns env)):=J (by
    rcases k with _|p
    ·exact .inl rfl
    ·refine .inr ⟨p,rfl,by omega,(hc p (by omega)).1,fun h=>Nr bT HS.o.2 h,fun h=>PC bT h⟩)
   have W5:Hid (k=0->Eu (env.take (k+1))):=J (fun h=>by subst h;exact Lb bT);clear hc hx;generalize env[k]=y at *;clear bT;obtain⟨t,z⟩:=y;simp only at p0 p1 aP cO cP mV fX;have kZ:=J (fun W=>IX W t (by have:=mV.o.1;omega));have qa:=J (fun W=>Fc W t);have ul:Hid (CQ t=(CO t && !AY t)):=J (by rw[Ca];rfl);obtain⟨s,hs⟩:∃s:ByteArray,str t= .string s:=⟨_,rfl⟩;rw[hs]at p0 kZ qa;have i5:=J hs;clear hs;go_upto_region 6 with fail;have gl:=Blk.new wr 62 #[.string s,.int .i64 z];have bG:=(Ext.refl wr).alloc (.cells #[.string s,.int .i64 z] 62);generalize wr.alloc (.cells #[.string s,.int .i64 z] 62)=w7 at *;generalize wr.heap.size=nb at *;have aN:=J (HX.o.trans bG);have dD:=J gl.twoB;clear gl bG p0 p1;generalize hwb:CO t=wb at *;generalize ke:AY t=rb at *;clear hwb ke;cases wb
   ·have ao:=J (cO.o (by rw[ul.o];rfl));clear iO;have ei:Hid (∀w1 w2,(fun w':World=>Ext w7 w'/\w'.cell? ⟨nb,0,none⟩=some (.string s)/\w'.cell? ⟨nb,1,none⟩=some (.int .i64 z)) w1->Ext w1 w2->(fun w':World=>Ext w7 w'/\w'.cell? ⟨nb,0,none⟩=some (.string s)/\w'.cell? ⟨nb,1,none⟩=some (.int .i64 z)) w2):=J (fun w1 w2 h hx=>by
     obtain⟨p0,p1,p2⟩:=h;exact⟨p0.trans hx,hx.keep p1,hx.keep p2⟩)
    refine wp_region_held_drew (S:=fun w'=>Ext w7 w'/\w'.cell? ⟨nb,0,none⟩=some (.string s)/\w'.cell? ⟨nb,1,none⟩=some (.int .i64 z)) (by kernel_rfl) (by exact⟨(Ext.refl w7).drew,dD.o.1,dD.o.2⟩) (fun hHeld=> ?_);refine' wpAnyH_take (i:=0) (oi:=⟨some 23,_,_,_,_,_⟩) (v:=_) rfl (by kernel_rfl) (by kernel_rfl) (by kernel_rfl) (fun _ _ _ h=>h) (Or.inl ⟨by rfl,?_⟩) hHeld ?_
    rotate_left
    ·(intro w' ab;(try dsimp only at ab);go_simp;(try with_reducible rfl))
    try simp only[pu]
    refine' wpAnyH_take (i:=1) (oi:=⟨some 24,_,_,_,_,_⟩) (v:=_) rfl (by kernel_rfl) (by kernel_rfl) (by kernel_rfl) (fun _ _ _ h=>h) (Or.inl ⟨by rfl,?_⟩) hHeld ?_
    rotate_left
    ·(intro w' ab;(try dsimp only at ab);go_simp;(try with_reducible rfl))
    try simp only[pu]
    refine wpAnyH_ready (rs:=[2]) (by kernel_rfl) (by simp) ?_
    refine AllReadyH.cons (i:=2) rfl (fun K hK=> ?_) AllReadyH.nil;go_simp
    (go_at_call 94;refine(kZ.o _).mono ?_;rintro e w8 ⟨rfl,rfl⟩)
    try go_wp2_with fail
    refine hK.out _ _ ?_ (fun hHeld=> ?_)
    ·exact hHeld
    clear hK K;try simp only[pu]
    refine' wpAnyH_take (i:=3) (oi:=⟨some 26,_,_,_,_,_⟩) (v:=_) rfl (by kernel_rfl) (by kernel_rfl) (by kernel_rfl) (fun _ _ _ h=>h) (Or.inl ⟨by rfl,?_⟩) hHeld ?_
    rotate_left
    ·(intro w' ab;(try dsimp only at ab);go_simp;(try with_reducible rfl))
    try simp only[pu]
    refine' wpAnyH_take (i:=4) (oi:=⟨some 27,_,_,_,_,_⟩) (v:=_) rfl (by kernel_rfl) (by kernel_rfl) (by kernel_rfl) (fun _ _ _ h=>h) (Or.inl ⟨by rfl,?_⟩) hHeld ?_
    rotate_left
    ·(intro w' ab;(try dsimp only at ab);go_simp;(try with_reducible rfl))
    try simp only[pu]
    refine' wpAnyH_take (i:=5) (oi:=⟨some 28,_,_,_,_,_⟩) (v:=undef) rfl (by kernel_rfl) (by kernel_rfl) (by kernel_rfl) (fun _ _ _ h=>h) (Or.inr ⟨by rfl,rfl⟩) hHeld ?_
    try simp only[pu]
    refine' wpAnyH_take (i:=6) (oi:=⟨some 29,_,_,_,_,_⟩) (v:=undef) rfl (by kernel_rfl) (by kernel_rfl) (by kernel_rfl) (fun _ _ _ h=>h) (Or.inr ⟨by rfl,rfl⟩) hHeld ?_
    try simp only[pu]
    refine' wpAnyH_take (i:=7) (oi:=⟨some 30,_,_,_,_,_⟩) (v:=undef) rfl (by kernel_rfl) (by kernel_rfl) (by kernel_rfl) (fun _ _ _ h=>h) (Or.inr ⟨by rfl,rfl⟩) hHeld ?_
    try simp only[pu]
    refine' wpAnyH_take (i:=8) (oi:=⟨some 31,_,_,_,_,_⟩) (v:=_) rfl (by kernel_rfl) (by kernel_rfl) (by kernel_rfl) (fun _ _ _ h=>h) (Or.inl ⟨by rfl,?_⟩) hHeld ?_
    rotate_left
    ·(intro w' ab;(try dsimp only at ab);go_simp;(try with_reducible rfl))
    try simp only[pu]
    refine' wpAnyH_take (i:=9) (oi:=⟨some 32,_,_,_,_,_⟩) (v:=_) rfl (by kernel_rfl) (by kernel_rfl) (by kernel_rfl) (fun _ _ _ h=>h) (Or.inl ⟨by rfl,?_⟩) hHeld ?_
    rotate_left
    ·(intro w' ab;(try dsimp only at ab);go_simp;(try with_reducible rfl))
    try simp only[pu]
    refine' wpAnyH_take (i:=10) (oi:=⟨some 33,_,_,_,_,_⟩) (v:=undef) rfl (by kernel_rfl) (by kernel_rfl) (by kernel_rfl) (fun _ _ _ h=>h) (Or.inr ⟨by rfl,rfl⟩) hHeld ?_
    try simp only[pu]
    refine' wpAnyH_take (i:=11) (oi:=⟨some 34,_,_,_,_,_⟩) (v:=undef) rfl (by kernel_rfl) (by kernel_rfl) (by kernel_rfl) (fun _ _ _ h=>h) (Or.inr ⟨by rfl,rfl⟩) hHeld ?_
    try simp only[pu]
    refine' wpAnyH_take (i:=12) (oi:=⟨some 35,_,_,_,_,_⟩) (v:=undef) rfl (by kernel_rfl) (by kernel_rfl) (by kernel_rfl) (fun _ _ _ h=>h) (Or.inr ⟨by rfl,rfl⟩) hHeld ?_
    try simp only[pu]
    refine' wpAnyH_take (i:=13) (oi:=⟨some 36,_,_,_,_,_⟩) (v:=undef) rfl (by kernel_rfl) (by kernel_rfl) (by kernel_rfl) (fun _ _ _ h=>h) (Or.inr ⟨by rfl,rfl⟩) hHeld ?_
    try simp only[pu]
    refine' wpAnyH_take (i:=14) (oi:=⟨some 37,_,_,_,_,_⟩) (v:=undef) rfl (by kernel_rfl) (by kernel_rfl) (by kernel_rfl) (fun _ _ _ h=>h) (Or.inr ⟨by rfl,rfl⟩) hHeld ?_
    try simp only[pu]
    refine' wpAnyH_take (i:=15) (oi:=⟨some 38,_,_,_,_,_⟩) (v:=_) rfl (by kernel_rfl) (by kernel_rfl) (by kernel_rfl) (fun _ _ _ h=>h) (Or.inl ⟨by rfl,?_⟩) hHeld ?_
    rotate_left
    ·(intro w' ab;(try dsimp only at ab);go_simp;(try with_reducible rfl))
    try simp only[pu]
    refine' wpAnyH_take (i:=16) (oi:=⟨some 39,_,_,_,_,_⟩) (v:=_) rfl (by kernel_rfl) (by kernel_rfl) (by kernel_rfl) (fun _ _ _ h=>h) (Or.inl ⟨by rfl,?_⟩) hHeld ?_
    rotate_left
    ·(intro w' ab;(try dsimp only at ab);go_simp;(try with_reducible rfl))
    try simp only[pu]
    refine' wpAnyH_take (i:=17) (oi:=⟨some 40,_,_,_,_,_⟩) (v:=undef) rfl (by kernel_rfl) (by kernel_rfl) (by kernel_rfl) (fun _ _ _ h=>h) (Or.inr ⟨by rfl,rfl⟩) hHeld ?_
    try simp only[pu]
    refine' wpAnyH_take (i:=18) (oi:=⟨some 41,_,_,_,_,_⟩) (v:=undef) rfl (by kernel_rfl) (by kernel_rfl) (by kernel_rfl) (fun _ _ _ h=>h) (Or.inr ⟨by rfl,rfl⟩) hHeld ?_
    try simp only[pu]
    refine' wpAnyH_take (i:=19) (oi:=⟨some 42,_,_,_,_,_⟩) (v:=undef) rfl (by kernel_rfl) (by kernel_rfl) (by kernel_rfl) (fun _ _ _ h=>h) (Or.inr ⟨by rfl,rfl⟩) hHeld ?_
    try simp only[pu]
    refine' wpAnyH_take (i:=20) (oi:=⟨some 43,_,_,_,_,_⟩) (v:=undef) rfl (by kernel_rfl) (by kernel_rfl) (by kernel_rfl) (fun _ _ _ h=>h) (Or.inr ⟨by rfl,rfl⟩) hHeld ?_
    try simp only[pu]
    refine' wpAnyH_take (i:=21) (oi:=⟨some 44,_,_,_,_,_⟩) (v:=undef) rfl (by kernel_rfl) (by kernel_rfl) (by kernel_rfl) (fun _ _ _ h=>h) (Or.inr ⟨by rfl,rfl⟩) hHeld ?_
    try simp only[pu]
    refine' wpAnyH_take (i:=22) (oi:=⟨some 45,_,_,_,_,_⟩) (v:=undef) rfl (by kernel_rfl) (by kernel_rfl) (by kernel_rfl) (fun _ _ _ h=>h) (Or.inr ⟨by rfl,rfl⟩) hHeld ?_
    try simp only[pu]
    refine' wpAnyH_take (i:=23) (oi:=⟨some 46,_,_,_,_,_⟩) (v:=undef) rfl (by kernel_rfl) (by kernel_rfl) (by kernel_rfl) (fun _ _ _ h=>h) (Or.inr ⟨by rfl,rfl⟩) hHeld ?_
    try simp only[pu]
    refine' wpAnyH_take (i:=24) (oi:=⟨some 47,_,_,_,_,_⟩) (v:=undef) rfl (by kernel_rfl) (by kernel_rfl) (by kernel_rfl) (fun _ _ _ h=>h) (Or.inr ⟨by rfl,rfl⟩) hHeld ?_
    try simp only[pu]
    refine' wpAnyH_take (i:=25) (oi:=⟨some 48,_,_,_,_,_⟩) (v:=undef) rfl (by kernel_rfl) (by kernel_rfl) (by kernel_rfl) (fun _ _ _ h=>h) (Or.inr ⟨by rfl,rfl⟩) hHeld ?_
    try simp only[pu]
    refine' wpAnyH_take (i:=26) (oi:=⟨some 49,_,_,_,_,_⟩) (v:=undef) rfl (by kernel_rfl) (by kernel_rfl) (by kernel_rfl) (fun _ _ _ h=>h) (Or.inr ⟨by rfl,rfl⟩) hHeld ?_
    try simp only[pu]
    refine' wpAnyH_take (i:=27) (oi:=⟨some 50,_,_,_,_,_⟩) (v:=undef) rfl (by kernel_rfl) (by kernel_rfl) (by kernel_rfl) (fun _ _ _ h=>h) (Or.inr ⟨by rfl,rfl⟩) hHeld ?_
    try simp only[pu]
    refine' wpAnyH_take (i:=28) (oi:=⟨some 51,_,_,_,_,_⟩) (v:=undef) rfl (by kernel_rfl) (by kernel_rfl) (by kernel_rfl) (fun _ _ _ h=>h) (Or.inr ⟨by rfl,rfl⟩) hHeld ?_
    try simp only[pu]
    refine' wpAnyH_take (i:=29) (oi:=⟨some 52,_,_,_,_,_⟩) (v:=undef) rfl (by kernel_rfl) (by kernel_rfl) (by kernel_rfl) (fun _ _ _ h=>h) (Or.inr ⟨by rfl,rfl⟩) hHeld ?_
    try simp only[pu]
    refine' wpAnyH_take (i:=30) (oi:=⟨some 53,_,_,_,_,_⟩) (v:=_) rfl (by kernel_rfl) (by kernel_rfl) (by kernel_rfl) (fun _ _ _ h=>h) (Or.inl ⟨by rfl,?_⟩) hHeld ?_
    rotate_left
    ·(intro w' ab;(try dsimp only at ab);go_simp;(try with_reducible rfl))
    try simp only[pu]
    refine wpAnyH_done (by kernel_rfl) ?_ _
    have gH:=J (aN.o.trans hHeld.1);clear hHeld ei;go_wp2_with fail;go_ret;exact⟨false,rfl,⟨(fun h=>by cases h),fun h=>absurd h ao.o⟩,gH.o⟩
   cases rb;rotate_left
   ·have ao:=J (cO.o (by rw[ul.o];rfl));clear iO;have ei:Hid (∀w1 w2,(fun w':World=>Ext w7 w'/\w'.cell? ⟨nb,0,none⟩=some (.string s)/\w'.cell? ⟨nb,1,none⟩=some (.int .i64 z)) w1->Ext w1 w2->(fun w':World=>Ext w7 w'/\w'.cell? ⟨nb,0,none⟩=some (.string s)/\w'.cell? ⟨nb,1,none⟩=some (.int .i64 z)) w2):=J (fun w1 w2 h hx=>by
     obtain⟨p0,p1,p2⟩:=h;exact⟨p0.trans hx,hx.keep p1,hx.keep p2⟩)
    refine wp_region_held_drew (S:=fun w'=>Ext w7 w'/\w'.cell? ⟨nb,0,none⟩=some (.string s)/\w'.cell? ⟨nb,1,none⟩=some (.int .i64 z)) (by kernel_rfl) (by exact⟨(Ext.refl w7).drew,dD.o.1,dD.o.2⟩) (fun hHeld=> ?_);refine' wpAnyH_take (i:=0) (oi:=⟨some 23,_,_,_,_,_⟩) (v:=_) rfl (by kernel_rfl) (by kernel_rfl) (by kernel_rfl) (fun _ _ _ h=>h) (Or.inl ⟨by rfl,?_⟩) hHeld ?_
    rotate_left
    ·(intro w' ab;(try dsimp only at ab);go_simp;(try with_reducible rfl))
    try simp only[pu]
    refine' wpAnyH_take (i:=1) (oi:=⟨some 24,_,_,_,_,_⟩) (v:=_) rfl (by kernel_rfl) (by kernel_rfl) (by kernel_rfl) (fun _ _ _ h=>h) (Or.inl ⟨by rfl,?_⟩) hHeld ?_
    rotate_left
    ·(intro w' ab;(try dsimp only at ab);go_simp;(try with_reducible rfl))
    try simp only[pu]
    refine wpAnyH_ready (rs:=[2]) (by kernel_rfl) (by simp) ?_
    refine AllReadyH.cons (i:=2) rfl (fun K hK=> ?_) AllReadyH.nil;go_simp
    (go_at_call 94;refine(kZ.o _).mono ?_;rintro e w8 ⟨rfl,rfl⟩)
    try go_wp2_with fail
    refine hK.out _ _ ?_ (fun hHeld=> ?_)
    ·exact hHeld
    clear hK K;try simp only[pu]
    refine' wpAnyH_take (i:=3) (oi:=⟨some 26,_,_,_,_,_⟩) (v:=_) rfl (by kernel_rfl) (by kernel_rfl) (by kernel_rfl) (fun _ _ _ h=>h) (Or.inl ⟨by rfl,?_⟩) hHeld ?_
    rotate_left
    ·(intro w' ab;(try dsimp only at ab);go_simp;(try with_reducible rfl))
    try simp only[pu]
    refine' wpAnyH_take (i:=4) (oi:=⟨some 27,_,_,_,_,_⟩) (v:=_) rfl (by kernel_rfl) (by kernel_rfl) (by kernel_rfl) (fun _ _ _ h=>h) (Or.inl ⟨by rfl,?_⟩) hHeld ?_
    rotate_left
    ·(intro w' ab;(try dsimp only at ab);go_simp;(try with_reducible rfl))
    try simp only[pu]
    refine' wpAnyH_take (i:=5) (oi:=⟨some 28,_,_,_,_,_⟩) (v:=_) rfl (by kernel_rfl) (by kernel_rfl) (by kernel_rfl) (fun _ _ _ h=>h) (Or.inl ⟨by rfl,?_⟩) hHeld ?_
    rotate_left
    ·(intro w' ab;(try dsimp only at ab);go_simp;(try with_reducible rfl))
    try simp only[pu]
    refine' wpAnyH_take (i:=6) (oi:=⟨some 29,_,_,_,_,_⟩) (v:=_) rfl (by kernel_rfl) (by kernel_rfl) (by kernel_rfl) (fun _ _ _ h=>h) (Or.inl ⟨by rfl,?_⟩) hHeld ?_
    rotate_left
    ·(intro w' ab;(try dsimp only at ab);go_simp;(try with_reducible rfl))
    try simp only[pu]
    refine wpAnyH_ready (rs:=[7]) (by kernel_rfl) (by simp) ?_
    refine AllReadyH.cons (i:=7) rfl (fun K hK=> ?_) AllReadyH.nil;go_simp
    (go_at_call 95;refine(qa.o _).mono ?_;rintro e w9 ⟨rfl,rfl⟩)
    try go_wp2_with fail
    refine hK.out _ _ ?_ (fun hHeld=> ?_)
    ·exact hHeld
    clear hK K;try simp only[pu]
    refine' wpAnyH_take (i:=8) (oi:=⟨some 31,_,_,_,_,_⟩) (v:=_) rfl (by kernel_rfl) (by kernel_rfl) (by kernel_rfl) (fun _ _ _ h=>h) (Or.inl ⟨by rfl,?_⟩) hHeld ?_
    rotate_left
    ·(intro w' ab;(try dsimp only at ab);go_simp;(try with_reducible rfl))
    try simp only[pu]
    refine' wpAnyH_take (i:=9) (oi:=⟨some 32,_,_,_,_,_⟩) (v:=_) rfl (by kernel_rfl) (by kernel_rfl) (by kernel_rfl) (fun _ _ _ h=>h) (Or.inl ⟨by rfl,?_⟩) hHeld ?_
    rotate_left
    ·(intro w' ab;(try dsimp only at ab);go_simp;(try with_reducible rfl))
    try simp only[pu]
    refine' wpAnyH_take (i:=10) (oi:=⟨some 33,_,_,_,_,_⟩) (v:=undef) rfl (by kernel_rfl) (by kernel_rfl) (by kernel_rfl) (fun _ _ _ h=>h) (Or.inr ⟨by rfl,rfl⟩) hHeld ?_
    try simp only[pu]
    refine' wpAnyH_take (i:=11) (oi:=⟨some 34,_,_,_,_,_⟩) (v:=undef) rfl (by kernel_rfl) (by kernel_rfl) (by kernel_rfl) (fun _ _ _ h=>h) (Or.inr ⟨by rfl,rfl⟩) hHeld ?_
    try simp only[pu]
    refine' wpAnyH_take (i:=12) (oi:=⟨some 35,_,_,_,_,_⟩) (v:=undef) rfl (by kernel_rfl) (by kernel_rfl) (by kernel_rfl) (fun _ _ _ h=>h) (Or.inr ⟨by rfl,rfl⟩) hHeld ?_
    try simp only[pu]
    refine' wpAnyH_take (i:=13) (oi:=⟨some 36,_,_,_,_,_⟩) (v:=undef) rfl (by kernel_rfl) (by kernel_rfl) (by kernel_rfl) (fun _ _ _ h=>h) (Or.inr ⟨by rfl,rfl⟩) hHeld ?_
    try simp only[pu]
    refine' wpAnyH_take (i:=14) (oi:=⟨some 37,_,_,_,_,_⟩) (v:=undef) rfl (by kernel_rfl) (by kernel_rfl) (by kernel_rfl) (fun _ _ _ h=>h) (Or.inr ⟨by rfl,rfl⟩) hHeld ?_
    try simp only[pu]
    refine' wpAnyH_take (i:=15) (oi:=⟨some 38,_,_,_,_,_⟩) (v:=_) rfl (by kernel_rfl) (by kernel_rfl) (by kernel_rfl) (fun _ _ _ h=>h) (Or.inl ⟨by rfl,?_⟩) hHeld ?_
    rotate_left
    ·(intro w' ab;(try dsimp only at ab);go_simp;(try with_reducible rfl))
    try simp only[pu]
    refine' wpAnyH_take (i:=16) (oi:=⟨some 39,_,_,_,_,_⟩) (v:=_) rfl (by kernel_rfl) (by kernel_rfl) (by kernel_rfl) (fun _ _ _ h=>h) (Or.inl ⟨by rfl,?_⟩) hHeld ?_
    rotate_left
    ·(intro w' ab;(try dsimp only at ab);go_simp;(try with_reducible rfl))
    try simp only[pu]
    refine' wpAnyH_take (i:=17) (oi:=⟨some 40,_,_,_,_,_⟩) (v:=undef) rfl (by kernel_rfl) (by kernel_rfl) (by kernel_rfl) (fun _ _ _ h=>h) (Or.inr ⟨by rfl,rfl⟩) hHeld ?_
    try simp only[pu]
    refine' wpAnyH_take (i:=18) (oi:=⟨some 41,_,_,_,_,_⟩) (v:=undef) rfl (by kernel_rfl) (by kernel_rfl) (by kernel_rfl) (fun _ _ _ h=>h) (Or.inr ⟨by rfl,rfl⟩) hHeld ?_
    try simp only[pu]
    refine' wpAnyH_take (i:=19) (oi:=⟨some 42,_,_,_,_,_⟩) (v:=undef) rfl (by kernel_rfl) (by kernel_rfl) (by kernel_rfl) (fun _ _ _ h=>h) (Or.inr ⟨by rfl,rfl⟩) hHeld ?_
    try simp only[pu]
    refine' wpAnyH_take (i:=20) (oi:=⟨some 43,_,_,_,_,_⟩) (v:=undef) rfl (by kernel_rfl) (by kernel_rfl) (by kernel_rfl) (fun _ _ _ h=>h) (Or.inr ⟨by rfl,rfl⟩) hHeld ?_
    try simp only[pu]
    refine' wpAnyH_take (i:=21) (oi:=⟨some 44,_,_,_,_,_⟩) (v:=undef) rfl (by kernel_rfl) (by kernel_rfl) (by kernel_rfl) (fun _ _ _ h=>h) (Or.inr ⟨by rfl,rfl⟩) hHeld ?_
    try simp only[pu]
    refine' wpAnyH_take (i:=22) (oi:=⟨some 45,_,_,_,_,_⟩) (v:=undef) rfl (by kernel_rfl) (by kernel_rfl) (by kernel_rfl) (fun _ _ _ h=>h) (Or.inr ⟨by rfl,rfl⟩) hHeld ?_
    try simp only[pu]
    refine' wpAnyH_take (i:=23) (oi:=⟨some 46,_,_,_,_,_⟩) (v:=undef) rfl (by kernel_rfl) (by kernel_rfl) (by kernel_rfl) (fun _ _ _ h=>h) (Or.inr ⟨by rfl,rfl⟩) hHeld ?_
    try simp only[pu]
    refine' wpAnyH_take (i:=24) (oi:=⟨some 47,_,_,_,_,_⟩) (v:=undef) rfl (by kernel_rfl) (by kernel_rfl) (by kernel_rfl) (fun _ _ _ h=>h) (Or.inr ⟨by rfl,rfl⟩) hHeld ?_
    try simp only[pu]
    refine' wpAnyH_take (i:=25) (oi:=⟨some 48,_,_,_,_,_⟩) (v:=undef) rfl (by kernel_rfl) (by kernel_rfl) (by kernel_rfl) (fun _ _ _ h=>h) (Or.inr ⟨by rfl,rfl⟩) hHeld ?_
    try simp only[pu]
    refine' wpAnyH_take (i:=26) (oi:=⟨some 49,_,_,_,_,_⟩) (v:=undef) rfl (by kernel_rfl) (by kernel_rfl) (by kernel_rfl) (fun _ _ _ h=>h) (Or.inr ⟨by rfl,rfl⟩) hHeld ?_
    try simp only[pu]
    refine' wpAnyH_take (i:=27) (oi:=⟨some 50,_,_,_,_,_⟩) (v:=undef) rfl (by kernel_rfl) (by kernel_rfl) (by kernel_rfl) (fun _ _ _ h=>h) (Or.inr ⟨by rfl,rfl⟩) hHeld ?_
    try simp only[pu]
    refine' wpAnyH_take (i:=28) (oi:=⟨some 51,_,_,_,_,_⟩) (v:=undef) rfl (by kernel_rfl) (by kernel_rfl) (by kernel_rfl) (fun _ _ _ h=>h) (Or.inr ⟨by rfl,rfl⟩) hHeld ?_
    try simp only[pu]
    refine' wpAnyH_take (i:=29) (oi:=⟨some 52,_,_,_,_,_⟩) (v:=undef) rfl (by kernel_rfl) (by kernel_rfl) (by kernel_rfl) (fun _ _ _ h=>h) (Or.inr ⟨by rfl,rfl⟩) hHeld ?_
    try simp only[pu]
    refine' wpAnyH_take (i:=30) (oi:=⟨some 53,_,_,_,_,_⟩) (v:=_) rfl (by kernel_rfl) (by kernel_rfl) (by kernel_rfl) (fun _ _ _ h=>h) (Or.inl ⟨by rfl,?_⟩) hHeld ?_
    rotate_left
    ·(intro w' ab;(try dsimp only at ab);go_simp;(try with_reducible rfl))
    try simp only[pu]
    refine wpAnyH_done (by kernel_rfl) ?_ _
    have gH:=J (aN.o.trans hHeld.1);clear hHeld ei;go_wp2_with fail;go_ret;exact⟨false,rfl,⟨(fun h=>by cases h),fun h=>absurd h ao.o⟩,gH.o⟩
   have yv:Hid (CQ t=true):=J (by rw[ul.o];rfl);have lL:=J (fun W hx=>iO.o W hx z);by_cases hz:0<=z/\z<(ns.length:Int);rotate_left
   ·have ao:=J (cP.o hz);rw[decide_eq_false hz]at lL;clear hz;have ei:Hid (∀w1 w2,(fun w':World=>Ext w7 w'/\w'.cell? ⟨nb,0,none⟩=some (.string s)/\w'.cell? ⟨nb,1,none⟩=some (.int .i64 z)) w1->Ext w1 w2->(fun w':World=>Ext w7 w'/\w'.cell? ⟨nb,0,none⟩=some (.string s)/\w'.cell? ⟨nb,1,none⟩=some (.int .i64 z)) w2):=J (fun w1 w2 h hx=>by
     obtain⟨p0,p1,p2⟩:=h;exact⟨p0.trans hx,hx.keep p1,hx.keep p2⟩)
    refine wp_region_held_drew (S:=fun w'=>Ext w7 w'/\w'.cell? ⟨nb,0,none⟩=some (.string s)/\w'.cell? ⟨nb,1,none⟩=some (.int .i64 z)) (by kernel_rfl) (by exact⟨(Ext.refl w7).drew,dD.o.1,dD.o.2⟩) (fun hHeld=> ?_);refine' wpAnyH_take (i:=0) (oi:=⟨some 23,_,_,_,_,_⟩) (v:=_) rfl (by kernel_rfl) (by kernel_rfl) (by kernel_rfl) (fun _ _ _ h=>h) (Or.inl ⟨by rfl,?_⟩) hHeld ?_
    rotate_left
    ·(intro w' ab;(try dsimp only at ab);go_simp;(try with_reducible rfl))
    try simp only[pu]
    refine' wpAnyH_take (i:=1) (oi:=⟨some 24,_,_,_,_,_⟩) (v:=_) rfl (by kernel_rfl) (by kernel_rfl) (by kernel_rfl) (fun _ _ _ h=>h) (Or.inl ⟨by rfl,?_⟩) hHeld ?_
    rotate_left
    ·(intro w' ab;(try dsimp only at ab);go_simp;(try with_reducible rfl))
    try simp only[pu]
    refine wpAnyH_ready (rs:=[2]) (by kernel_rfl) (by simp) ?_
    refine AllReadyH.cons (i:=2) rfl (fun K hK=> ?_) AllReadyH.nil;go_simp
    (go_at_call 94;refine(kZ.o _).mono ?_;rintro e w8 ⟨rfl,rfl⟩)
    try go_wp2_with fail
    refine hK.out _ _ ?_ (fun hHeld=> ?_)
    ·exact hHeld
    clear hK K;try simp only[pu]
    refine' wpAnyH_take (i:=3) (oi:=⟨some 26,_,_,_,_,_⟩) (v:=_) rfl (by kernel_rfl) (by kernel_rfl) (by kernel_rfl) (fun _ _ _ h=>h) (Or.inl ⟨by rfl,?_⟩) hHeld ?_
    rotate_left
    ·(intro w' ab;(try dsimp only at ab);go_simp;(try with_reducible rfl))
    try simp only[pu]
    refine' wpAnyH_take (i:=4) (oi:=⟨some 27,_,_,_,_,_⟩) (v:=_) rfl (by kernel_rfl) (by kernel_rfl) (by kernel_rfl) (fun _ _ _ h=>h) (Or.inl ⟨by rfl,?_⟩) hHeld ?_
    rotate_left
    ·(intro w' ab;(try dsimp only at ab);go_simp;(try with_reducible rfl))
    try simp only[pu]
    refine' wpAnyH_take (i:=5) (oi:=⟨some 28,_,_,_,_,_⟩) (v:=_) rfl (by kernel_rfl) (by kernel_rfl) (by kernel_rfl) (fun _ _ _ h=>h) (Or.inl ⟨by rfl,?_⟩) hHeld ?_
    rotate_left
    ·(intro w' ab;(try dsimp only at ab);go_simp;(try with_reducible rfl))
    try simp only[pu]
    refine' wpAnyH_take (i:=6) (oi:=⟨some 29,_,_,_,_,_⟩) (v:=_) rfl (by kernel_rfl) (by kernel_rfl) (by kernel_rfl) (fun _ _ _ h=>h) (Or.inl ⟨by rfl,?_⟩) hHeld ?_
    rotate_left
    ·(intro w' ab;(try dsimp only at ab);go_simp;(try with_reducible rfl))
    try simp only[pu]
    refine wpAnyH_ready (rs:=[7]) (by kernel_rfl) (by simp) ?_
    refine AllReadyH.cons (i:=7) rfl (fun K hK=> ?_) AllReadyH.nil;go_simp
    (go_at_call 95;refine(qa.o _).mono ?_;rintro e w9 ⟨rfl,rfl⟩)
    try go_wp2_with fail
    refine hK.out _ _ ?_ (fun hHeld=> ?_)
    ·exact hHeld
    clear hK K;try simp only[pu]
    refine' wpAnyH_take (i:=8) (oi:=⟨some 31,_,_,_,_,_⟩) (v:=_) rfl (by kernel_rfl) (by kernel_rfl) (by kernel_rfl) (fun _ _ _ h=>h) (Or.inl ⟨by rfl,?_⟩) hHeld ?_
    rotate_left
    ·(intro w' ab;(try dsimp only at ab);go_simp;(try with_reducible rfl))
    try simp only[pu]
    refine' wpAnyH_take (i:=9) (oi:=⟨some 32,_,_,_,_,_⟩) (v:=_) rfl (by kernel_rfl) (by kernel_rfl) (by kernel_rfl) (fun _ _ _ h=>h) (Or.inl ⟨by rfl,?_⟩) hHeld ?_
    rotate_left
    ·(intro w' ab;(try dsimp only at ab);go_simp;(try with_reducible rfl))
    try simp only[pu]
    refine' wpAnyH_take (i:=10) (oi:=⟨some 33,_,_,_,_,_⟩) (v:=_) rfl (by kernel_rfl) (by kernel_rfl) (by kernel_rfl) (fun _ _ _ h=>h) (Or.inl ⟨by rfl,?_⟩) hHeld ?_
    rotate_left
    ·(intro w' ab;(try dsimp only at ab);go_simp;(try with_reducible rfl))
    try simp only[pu]
    refine' wpAnyH_take (i:=11) (oi:=⟨some 34,_,_,_,_,_⟩) (v:=_) rfl (by kernel_rfl) (by kernel_rfl) (by kernel_rfl) (fun _ _ _ h=>h) (Or.inl ⟨by rfl,?_⟩) hHeld ?_
    rotate_left
    ·(intro w' ab;(try dsimp only at ab);go_simp;(try with_reducible rfl))
    try simp only[pu]
    refine' wpAnyH_take (i:=12) (oi:=⟨some 35,_,_,_,_,_⟩) (v:=_) rfl (by kernel_rfl) (by kernel_rfl) (by kernel_rfl) (fun _ _ _ h=>h) (Or.inl ⟨by rfl,?_⟩) hHeld ?_
    rotate_left
    ·(intro w' ab;(try dsimp only at ab);go_simp;(try with_reducible rfl))
    try simp only[pu]
    refine wpAnyH_ready (rs:=[13]) (by kernel_rfl) (by simp) ?_
    refine AllReadyH.cons (i:=13) rfl (fun K hK=> ?_) AllReadyH.nil;go_simp
    (go_at_call 96;refine(lL.o _ (aN.o.trans hHeld.1)).mono ?_;rintro e dj ⟨rfl,dn⟩)
    try go_wp2_with fail
    refine hK.out _ _ ?_ (fun hHeld=> ?_)
    ·exact ei.o _ _ hHeld dn
    clear hK K;try simp only[pu]
    refine' wpAnyH_take (i:=14) (oi:=⟨some 37,_,_,_,_,_⟩) (v:=_) rfl (by kernel_rfl) (by kernel_rfl) (by kernel_rfl) (fun _ _ _ h=>h) (Or.inl ⟨by rfl,?_⟩) hHeld ?_
    rotate_left
    ·(intro w' ab;(try dsimp only at ab);go_simp;(try with_reducible rfl))
    try simp only[pu]
    refine' wpAnyH_take (i:=15) (oi:=⟨some 38,_,_,_,_,_⟩) (v:=_) rfl (by kernel_rfl) (by kernel_rfl) (by kernel_rfl) (fun _ _ _ h=>h) (Or.inl ⟨by rfl,?_⟩) hHeld ?_
    rotate_left
    ·(intro w' ab;(try dsimp only at ab);go_simp;(try with_reducible rfl))
    try simp only[pu]
    refine' wpAnyH_take (i:=16) (oi:=⟨some 39,_,_,_,_,_⟩) (v:=_) rfl (by kernel_rfl) (by kernel_rfl) (by kernel_rfl) (fun _ _ _ h=>h) (Or.inl ⟨by rfl,?_⟩) hHeld ?_
    rotate_left
    ·(intro w' ab;(try dsimp only at ab);go_simp;(try with_reducible rfl))
    try simp only[pu]
    refine' wpAnyH_take (i:=17) (oi:=⟨some 40,_,_,_,_,_⟩) (v:=undef) rfl (by kernel_rfl) (by kernel_rfl) (by kernel_rfl) (fun _ _ _ h=>h) (Or.inr ⟨by rfl,rfl⟩) hHeld ?_
    try simp only[pu]
    refine' wpAnyH_take (i:=18) (oi:=⟨some 41,_,_,_,_,_⟩) (v:=undef) rfl (by kernel_rfl) (by kernel_rfl) (by kernel_rfl) (fun _ _ _ h=>h) (Or.inr ⟨by rfl,rfl⟩) hHeld ?_
    try simp only[pu]
    refine' wpAnyH_take (i:=19) (oi:=⟨some 42,_,_,_,_,_⟩) (v:=undef) rfl (by kernel_rfl) (by kernel_rfl) (by kernel_rfl) (fun _ _ _ h=>h) (Or.inr ⟨by rfl,rfl⟩) hHeld ?_
    try simp only[pu]
    refine' wpAnyH_take (i:=20) (oi:=⟨some 43,_,_,_,_,_⟩) (v:=undef) rfl (by kernel_rfl) (by kernel_rfl) (by kernel_rfl) (fun _ _ _ h=>h) (Or.inr ⟨by rfl,rfl⟩) hHeld ?_
    try simp only[pu]
    refine' wpAnyH_take (i:=21) (oi:=⟨some 44,_,_,_,_,_⟩) (v:=undef) rfl (by kernel_rfl) (by kernel_rfl) (by kernel_rfl) (fun _ _ _ h=>h) (Or.inr ⟨by rfl,rfl⟩) hHeld ?_
    try simp only[pu]
    refine' wpAnyH_take (i:=22) (oi:=⟨some 45,_,_,_,_,_⟩) (v:=undef) rfl (by kernel_rfl) (by kernel_rfl) (by kernel_rfl) (fun _ _ _ h=>h) (Or.inr ⟨by rfl,rfl⟩) hHeld ?_
    try simp only[pu]
    refine' wpAnyH_take (i:=23) (oi:=⟨some 46,_,_,_,_,_⟩) (v:=undef) rfl (by kernel_rfl) (by kernel_rfl) (by kernel_rfl) (fun _ _ _ h=>h) (Or.inr ⟨by rfl,rfl⟩) hHeld ?_
    try simp only[pu]
    refine' wpAnyH_take (i:=24) (oi:=⟨some 47,_,_,_,_,_⟩) (v:=undef) rfl (by kernel_rfl) (by kernel_rfl) (by kernel_rfl) (fun _ _ _ h=>h) (Or.inr ⟨by rfl,rfl⟩) hHeld ?_
    try simp only[pu]
    refine' wpAnyH_take (i:=25) (oi:=⟨some 48,_,_,_,_,_⟩) (v:=undef) rfl (by kernel_rfl) (by kernel_rfl) (by kernel_rfl) (fun _ _ _ h=>h) (Or.inr ⟨by rfl,rfl⟩) hHeld ?_
    try simp only[pu]
    refine' wpAnyH_take (i:=26) (oi:=⟨some 49,_,_,_,_,_⟩) (v:=undef) rfl (by kernel_rfl) (by kernel_rfl) (by kernel_rfl) (fun _ _ _ h=>h) (Or.inr ⟨by rfl,rfl⟩) hHeld ?_
    try simp only[pu]
    refine' wpAnyH_take (i:=27) (oi:=⟨some 50,_,_,_,_,_⟩) (v:=undef) rfl (by kernel_rfl) (by kernel_rfl) (by kernel_rfl) (fun _ _ _ h=>h) (Or.inr ⟨by rfl,rfl⟩) hHeld ?_
    try simp only[pu]
    refine' wpAnyH_take (i:=28) (oi:=⟨some 51,_,_,_,_,_⟩) (v:=undef) rfl (by kernel_rfl) (by kernel_rfl) (by kernel_rfl) (fun _ _ _ h=>h) (Or.inr ⟨by rfl,rfl⟩) hHeld ?_
    try simp only[pu]
    refine' wpAnyH_take (i:=29) (oi:=⟨some 52,_,_,_,_,_⟩) (v:=undef) rfl (by kernel_rfl) (by kernel_rfl) (by kernel_rfl) (fun _ _ _ h=>h) (Or.inr ⟨by rfl,rfl⟩) hHeld ?_
    try simp only[pu]
    refine' wpAnyH_take (i:=30) (oi:=⟨some 53,_,_,_,_,_⟩) (v:=_) rfl (by kernel_rfl) (by kernel_rfl) (by kernel_rfl) (fun _ _ _ h=>h) (Or.inl ⟨by rfl,?_⟩) hHeld ?_
    rotate_left
    ·(intro w' ab;(try dsimp only at ab);go_simp;(try with_reducible rfl))
    try simp only[pu]
    refine wpAnyH_done (by kernel_rfl) ?_ _
    have gH:=J (aN.o.trans hHeld.1);clear hHeld ei;go_wp2_with fail;go_ret;exact⟨false,rfl,⟨(fun h=>by cases h),fun h=>absurd h ao.o⟩,gH.o⟩
   rw[decide_eq_true hz]at lL;have vg:=J hz;clear hz;rcases fX.o with rfl|⟨p,rfl,hp,hpc,dV,dM⟩
   ·have iM:=J (aP.o yv.o vg.o (W5.o rfl));have mQ:decide (((0:Nat):Int)>0)=false:=by decide
    have ei:Hid (∀w1 w2,(fun w':World=>Ext w7 w'/\w'.cell? ⟨nb,0,none⟩=some (.string s)/\w'.cell? ⟨nb,1,none⟩=some (.int .i64 z)) w1->Ext w1 w2->(fun w':World=>Ext w7 w'/\w'.cell? ⟨nb,0,none⟩=some (.string s)/\w'.cell? ⟨nb,1,none⟩=some (.int .i64 z)) w2):=J (fun w1 w2 h hx=>by
     obtain⟨p0,p1,p2⟩:=h;exact⟨p0.trans hx,hx.keep p1,hx.keep p2⟩)
    refine wp_region_held_drew (S:=fun w'=>Ext w7 w'/\w'.cell? ⟨nb,0,none⟩=some (.string s)/\w'.cell? ⟨nb,1,none⟩=some (.int .i64 z)) (by kernel_rfl) (by exact⟨(Ext.refl w7).drew,dD.o.1,dD.o.2⟩) (fun hHeld=> ?_);refine' wpAnyH_take (i:=0) (oi:=⟨some 23,_,_,_,_,_⟩) (v:=_) rfl (by kernel_rfl) (by kernel_rfl) (by kernel_rfl) (fun _ _ _ h=>h) (Or.inl ⟨by rfl,?_⟩) hHeld ?_
    rotate_left
    ·(intro w' ab;(try dsimp only at ab);go_simp;(try with_reducible rfl))
    try simp only[pu]
    refine' wpAnyH_take (i:=1) (oi:=⟨some 24,_,_,_,_,_⟩) (v:=_) rfl (by kernel_rfl) (by kernel_rfl) (by kernel_rfl) (fun _ _ _ h=>h) (Or.inl ⟨by rfl,?_⟩) hHeld ?_
    rotate_left
    ·(intro w' ab;(try dsimp only at ab);go_simp;(try with_reducible rfl))
    try simp only[pu]
    refine wpAnyH_ready (rs:=[2]) (by kernel_rfl) (by simp) ?_
    refine AllReadyH.cons (i:=2) rfl (fun K hK=> ?_) AllReadyH.nil;go_simp
    (go_at_call 94;refine(kZ.o _).mono ?_;rintro e w8 ⟨rfl,rfl⟩)
    try go_wp2_with fail
    refine hK.out _ _ ?_ (fun hHeld=> ?_)
    ·exact hHeld
    clear hK K;try simp only[pu]
    refine' wpAnyH_take (i:=3) (oi:=⟨some 26,_,_,_,_,_⟩) (v:=_) rfl (by kernel_rfl) (by kernel_rfl) (by kernel_rfl) (fun _ _ _ h=>h) (Or.inl ⟨by rfl,?_⟩) hHeld ?_
    rotate_left
    ·(intro w' ab;(try dsimp only at ab);go_simp;(try with_reducible rfl))
    try simp only[pu]
    refine' wpAnyH_take (i:=4) (oi:=⟨some 27,_,_,_,_,_⟩) (v:=_) rfl (by kernel_rfl) (by kernel_rfl) (by kernel_rfl) (fun _ _ _ h=>h) (Or.inl ⟨by rfl,?_⟩) hHeld ?_
    rotate_left
    ·(intro w' ab;(try dsimp only at ab);go_simp;(try with_reducible rfl))
    try simp only[pu]
    refine' wpAnyH_take (i:=5) (oi:=⟨some 28,_,_,_,_,_⟩) (v:=_) rfl (by kernel_rfl) (by kernel_rfl) (by kernel_rfl) (fun _ _ _ h=>h) (Or.inl ⟨by rfl,?_⟩) hHeld ?_
    rotate_left
    ·(intro w' ab;(try dsimp only at ab);go_simp;(try with_reducible rfl))
    try simp only[pu]
    refine' wpAnyH_take (i:=6) (oi:=⟨some 29,_,_,_,_,_⟩) (v:=_) rfl (by kernel_rfl) (by kernel_rfl) (by kernel_rfl) (fun _ _ _ h=>h) (Or.inl ⟨by rfl,?_⟩) hHeld ?_
    rotate_left
    ·(intro w' ab;(try dsimp only at ab);go_simp;(try with_reducible rfl))
    try simp only[pu]
    refine wpAnyH_ready (rs:=[7]) (by kernel_rfl) (by simp) ?_
    refine AllReadyH.cons (i:=7) rfl (fun K hK=> ?_) AllReadyH.nil;go_simp
    (go_at_call 95;refine(qa.o _).mono ?_;rintro e w9 ⟨rfl,rfl⟩)
    try go_wp2_with fail
    refine hK.out _ _ ?_ (fun hHeld=> ?_)
    ·exact hHeld
    clear hK K;try simp only[pu]
    refine' wpAnyH_take (i:=8) (oi:=⟨some 31,_,_,_,_,_⟩) (v:=_) rfl (by kernel_rfl) (by kernel_rfl) (by kernel_rfl) (fun _ _ _ h=>h) (Or.inl ⟨by rfl,?_⟩) hHeld ?_
    rotate_left
    ·(intro w' ab;(try dsimp only at ab);go_simp;(try with_reducible rfl))
    try simp only[pu]
    refine' wpAnyH_take (i:=9) (oi:=⟨some 32,_,_,_,_,_⟩) (v:=_) rfl (by kernel_rfl) (by kernel_rfl) (by kernel_rfl) (fun _ _ _ h=>h) (Or.inl ⟨by rfl,?_⟩) hHeld ?_
    rotate_left
    ·(intro w' ab;(try dsimp only at ab);go_simp;(try with_reducible rfl))
    try simp only[pu]
    refine' wpAnyH_take (i:=10) (oi:=⟨some 33,_,_,_,_,_⟩) (v:=_) rfl (by kernel_rfl) (by kernel_rfl) (by kernel_rfl) (fun _ _ _ h=>h) (Or.inl ⟨by rfl,?_⟩) hHeld ?_
    rotate_left
    ·(intro w' ab;(try dsimp only at ab);go_simp;(try with_reducible rfl))
    try simp only[pu]
    refine' wpAnyH_take (i:=11) (oi:=⟨some 34,_,_,_,_,_⟩) (v:=_) rfl (by kernel_rfl) (by kernel_rfl) (by kernel_rfl) (fun _ _ _ h=>h) (Or.inl ⟨by rfl,?_⟩) hHeld ?_
    rotate_left
    ·(intro w' ab;(try dsimp only at ab);go_simp;(try with_reducible rfl))
    try simp only[pu]
    refine' wpAnyH_take (i:=12) (oi:=⟨some 35,_,_,_,_,_⟩) (v:=_) rfl (by kernel_rfl) (by kernel_rfl) (by kernel_rfl) (fun _ _ _ h=>h) (Or.inl ⟨by rfl,?_⟩) hHeld ?_
    rotate_left
    ·(intro w' ab;(try dsimp only at ab);go_simp;(try with_reducible rfl))
    try simp only[pu]
    refine wpAnyH_ready (rs:=[13]) (by kernel_rfl) (by simp) ?_
    refine AllReadyH.cons (i:=13) rfl (fun K hK=> ?_) AllReadyH.nil;go_simp
    (go_at_call 96;refine(lL.o _ (aN.o.trans hHeld.1)).mono ?_;rintro e dj ⟨rfl,dn⟩)
    try go_wp2_with fail
    refine hK.out _ _ ?_ (fun hHeld=> ?_)
    ·exact ei.o _ _ hHeld dn
    clear hK K;try simp only[pu]
    refine' wpAnyH_take (i:=14) (oi:=⟨some 37,_,_,_,_,_⟩) (v:=_) rfl (by kernel_rfl) (by kernel_rfl) (by kernel_rfl) (fun _ _ _ h=>h) (Or.inl ⟨by rfl,?_⟩) hHeld ?_
    rotate_left
    ·(intro w' ab;(try dsimp only at ab);go_simp;(try with_reducible rfl))
    try simp only[pu]
    refine' wpAnyH_take (i:=15) (oi:=⟨some 38,_,_,_,_,_⟩) (v:=_) rfl (by kernel_rfl) (by kernel_rfl) (by kernel_rfl) (fun _ _ _ h=>h) (Or.inl ⟨by rfl,?_⟩) hHeld ?_
    rotate_left
    ·(intro w' ab;(try dsimp only at ab);go_simp;(try with_reducible rfl))
    try simp only[pu]
    refine' wpAnyH_take (i:=16) (oi:=⟨some 39,_,_,_,_,_⟩) (v:=_) rfl (by kernel_rfl) (by kernel_rfl) (by kernel_rfl) (fun _ _ _ h=>h) (Or.inl ⟨by rfl,?_⟩) hHeld ?_
    rotate_left
    ·(intro w' ab;(try dsimp only at ab);go_simp;(try with_reducible rfl))
    try simp only[pu]
    refine' wpAnyH_take (i:=17) (oi:=⟨some 40,_,_,_,_,_⟩) (v:=_) rfl (by kernel_rfl) (by kernel_rfl) (by kernel_rfl) (fun _ _ _ h=>h) (Or.inl ⟨by rfl,?_⟩) hHeld ?_
    rotate_left
    ·(intro w' ab;(try dsimp only at ab);go_simp;(try with_reducible rfl))
    try simp only[pu]
    refine' wpAnyH_take (i:=18) (oi:=⟨some 41,_,_,_,_,_⟩) (v:=_) rfl (by kernel_rfl) (by kernel_rfl) (by kernel_rfl) (fun _ _ _ h=>h) (Or.inl ⟨by rfl,?_⟩) hHeld ?_
    rotate_left
    ·(intro w' ab;(try dsimp only at ab);go_simp;(try with_reducible rfl))
    try simp only[pu]
    refine' wpAnyH_take (i:=19) (oi:=⟨some 42,_,_,_,_,_⟩) (v:=_) rfl (by kernel_rfl) (by kernel_rfl) (by kernel_rfl) (fun _ _ _ h=>h) (Or.inl ⟨by rfl,?_⟩) hHeld ?_
    rotate_left
    ·(intro w' ab;(try dsimp only at ab);go_simp;(try with_reducible rfl))
    try simp only[pu]
    refine' wpAnyH_take (i:=20) (oi:=⟨some 43,_,_,_,_,_⟩) (v:=undef) rfl (by kernel_rfl) (by kernel_rfl) (by kernel_rfl) (fun _ _ _ h=>h) (Or.inr ⟨by rfl,rfl⟩) hHeld ?_
    try simp only[pu]
    refine' wpAnyH_take (i:=21) (oi:=⟨some 44,_,_,_,_,_⟩) (v:=undef) rfl (by kernel_rfl) (by kernel_rfl) (by kernel_rfl) (fun _ _ _ h=>h) (Or.inr ⟨by rfl,rfl⟩) hHeld ?_
    try simp only[pu]
    refine' wpAnyH_take (i:=22) (oi:=⟨some 45,_,_,_,_,_⟩) (v:=undef) rfl (by kernel_rfl) (by kernel_rfl) (by kernel_rfl) (fun _ _ _ h=>h) (Or.inr ⟨by rfl,rfl⟩) hHeld ?_
    try simp only[pu]
    refine' wpAnyH_take (i:=23) (oi:=⟨some 46,_,_,_,_,_⟩) (v:=undef) rfl (by kernel_rfl) (by kernel_rfl) (by kernel_rfl) (fun _ _ _ h=>h) (Or.inr ⟨by rfl,rfl⟩) hHeld ?_
    try simp only[pu]
    refine' wpAnyH_take (i:=24) (oi:=⟨some 47,_,_,_,_,_⟩) (v:=undef) rfl (by kernel_rfl) (by kernel_rfl) (by kernel_rfl) (fun _ _ _ h=>h) (Or.inr ⟨by rfl,rfl⟩) hHeld ?_
    try simp only[pu]
    refine' wpAnyH_take (i:=25) (oi:=⟨some 48,_,_,_,_,_⟩) (v:=undef) rfl (by kernel_rfl) (by kernel_rfl) (by kernel_rfl) (fun _ _ _ h=>h) (Or.inr ⟨by rfl,rfl⟩) hHeld ?_
    try simp only[pu]
    refine' wpAnyH_take (i:=26) (oi:=⟨some 49,_,_,_,_,_⟩) (v:=undef) rfl (by kernel_rfl) (by kernel_rfl) (by kernel_rfl) (fun _ _ _ h=>h) (Or.inr ⟨by rfl,rfl⟩) hHeld ?_
    try simp only[pu]
    refine' wpAnyH_take (i:=27) (oi:=⟨some 50,_,_,_,_,_⟩) (v:=undef) rfl (by kernel_rfl) (by kernel_rfl) (by kernel_rfl) (fun _ _ _ h=>h) (Or.inr ⟨by rfl,rfl⟩) hHeld ?_
    try simp only[pu]
    refine' wpAnyH_take (i:=28) (oi:=⟨some 51,_,_,_,_,_⟩) (v:=undef) rfl (by kernel_rfl) (by kernel_rfl) (by kernel_rfl) (fun _ _ _ h=>h) (Or.inr ⟨by rfl,rfl⟩) hHeld ?_
    try simp only[pu]
    refine' wpAnyH_take (i:=29) (oi:=⟨some 52,_,_,_,_,_⟩) (v:=_) rfl (by kernel_rfl) (by kernel_rfl) (by kernel_rfl) (fun _ _ _ h=>h) (Or.inl ⟨by rfl,?_⟩) hHeld ?_
    rotate_left
    ·(intro w' ab;(try dsimp only at ab);go_simp;(try with_reducible rfl))
    try simp only[pu]
    refine' wpAnyH_take (i:=30) (oi:=⟨some 53,_,_,_,_,_⟩) (v:=_) rfl (by kernel_rfl) (by kernel_rfl) (by kernel_rfl) (fun _ _ _ h=>h) (Or.inl ⟨by rfl,?_⟩) hHeld ?_
    rotate_left
    ·(intro w' ab;(try dsimp only at ab);go_simp;(try with_reducible rfl))
    try simp only[pu]
    refine wpAnyH_done (by kernel_rfl) ?_ _
    have gH:=J (aN.o.trans hHeld.1);clear hHeld ei;go_wp2_with fail;go_roundw
    case rel=>exact⟨0+1,by omega,by go_num,iM.o,gH.o⟩
    case measure=>simp[intOf]<;>omega
   have kF:=J dV;have lF:=J dM;clear dV dM fX;generalize env[p].1=tp at *;obtain⟨sp,mG⟩:∃sp:ByteArray,str tp= .string sp:=⟨_,rfl⟩;rw[mG]at hpc;have wP:=MX mG i5.o;have vk:=J hpc;have UY:IntKind.i64.wrap (((p+1:Nat):Int)-1)=(p:Int):=by rw[IntWalk.i64_in _ (by omega)];omega
   have UX:IntKind.i64.wrap ((p:Int)+1-1)=(p:Int):=by rw[IntWalk.i64_in _ (by omega)];omega
   have UW:IntKind.i64.wrap (p:Int)=(p:Int):=IntWalk.i64_in _ (by omega);have hp0:(0:Int)<=(p:Int):=by omega
   have gW:(p:Int)<(n:Int):=by omega
   have jw:decide (((p+1:Nat):Int)>0)=true:=decide_eq_true (by omega);have VC:decide ((p:Int)+1>0)=true:=decide_eq_true (by omega);clear mG hpc hp;by_cases hl:tp<t
   ·have iM:=J (aP.o yv.o vg.o (kF.o hl));rw[decide_eq_true hl]at wP;clear hl;have ei:Hid (∀w1 w2,(fun w':World=>Ext w7 w'/\w'.cell? ⟨nb,0,none⟩=some (.string s)/\w'.cell? ⟨nb,1,none⟩=some (.int .i64 z)/\w'.cell? ⟨gb,o+p*2,none⟩=some (.string sp)) w1->Ext w1 w2->(fun w':World=>Ext w7 w'/\w'.cell? ⟨nb,0,none⟩=some (.string s)/\w'.cell? ⟨nb,1,none⟩=some (.int .i64 z)/\w'.cell? ⟨gb,o+p*2,none⟩=some (.string sp)) w2):=J (fun w1 w2 h hx=>by
     obtain⟨p0,p1,p2,p3⟩:=h;exact⟨p0.trans hx,hx.keep p1,hx.keep p2,hx.keep p3⟩)
    refine wp_region_held_drew (S:=fun w'=>Ext w7 w'/\w'.cell? ⟨nb,0,none⟩=some (.string s)/\w'.cell? ⟨nb,1,none⟩=some (.int .i64 z)/\w'.cell? ⟨gb,o+p*2,none⟩=some (.string sp)) (by kernel_rfl) (by exact⟨(Ext.refl w7).drew,dD.o.1,dD.o.2,aN.o.keep vk.o⟩) (fun hHeld=> ?_);refine' wpAnyH_take (i:=0) (oi:=⟨some 23,_,_,_,_,_⟩) (v:=_) rfl (by kernel_rfl) (by kernel_rfl) (by kernel_rfl) (fun _ _ _ h=>h) (Or.inl ⟨by rfl,?_⟩) hHeld ?_
    rotate_left
    ·(intro w' ab;(try dsimp only at ab);go_simp;(try with_reducible rfl))
    try simp only[pu]
    refine' wpAnyH_take (i:=1) (oi:=⟨some 24,_,_,_,_,_⟩) (v:=_) rfl (by kernel_rfl) (by kernel_rfl) (by kernel_rfl) (fun _ _ _ h=>h) (Or.inl ⟨by rfl,?_⟩) hHeld ?_
    rotate_left
    ·(intro w' ab;(try dsimp only at ab);go_simp;(try with_reducible rfl))
    try simp only[pu]
    refine wpAnyH_ready (rs:=[2]) (by kernel_rfl) (by simp) ?_
    refine AllReadyH.cons (i:=2) rfl (fun K hK=> ?_) AllReadyH.nil;go_simp
    (go_at_call 94;refine(kZ.o _).mono ?_;rintro e w8 ⟨rfl,rfl⟩)
    try go_wp2_with fail
    refine hK.out _ _ ?_ (fun hHeld=> ?_)
    ·exact hHeld
    clear hK K;try simp only[pu]
    refine' wpAnyH_take (i:=3) (oi:=⟨some 26,_,_,_,_,_⟩) (v:=_) rfl (by kernel_rfl) (by kernel_rfl) (by kernel_rfl) (fun _ _ _ h=>h) (Or.inl ⟨by rfl,?_⟩) hHeld ?_
    rotate_left
    ·(intro w' ab;(try dsimp only at ab);go_simp;(try with_reducible rfl))
    try simp only[pu]
    refine' wpAnyH_take (i:=4) (oi:=⟨some 27,_,_,_,_,_⟩) (v:=_) rfl (by kernel_rfl) (by kernel_rfl) (by kernel_rfl) (fun _ _ _ h=>h) (Or.inl ⟨by rfl,?_⟩) hHeld ?_
    rotate_left
    ·(intro w' ab;(try dsimp only at ab);go_simp;(try with_reducible rfl))
    try simp only[pu]
    refine' wpAnyH_take (i:=5) (oi:=⟨some 28,_,_,_,_,_⟩) (v:=_) rfl (by kernel_rfl) (by kernel_rfl) (by kernel_rfl) (fun _ _ _ h=>h) (Or.inl ⟨by rfl,?_⟩) hHeld ?_
    rotate_left
    ·(intro w' ab;(try dsimp only at ab);go_simp;(try with_reducible rfl))
    try simp only[pu]
    refine' wpAnyH_take (i:=6) (oi:=⟨some 29,_,_,_,_,_⟩) (v:=_) rfl (by kernel_rfl) (by kernel_rfl) (by kernel_rfl) (fun _ _ _ h=>h) (Or.inl ⟨by rfl,?_⟩) hHeld ?_
    rotate_left
    ·(intro w' ab;(try dsimp only at ab);go_simp;(try with_reducible rfl))
    try simp only[pu]
    refine wpAnyH_ready (rs:=[7]) (by kernel_rfl) (by simp) ?_
    refine AllReadyH.cons (i:=7) rfl (fun K hK=> ?_) AllReadyH.nil;go_simp
    (go_at_call 95;refine(qa.o _).mono ?_;rintro e w9 ⟨rfl,rfl⟩)
    try go_wp2_with fail
    refine hK.out _ _ ?_ (fun hHeld=> ?_)
    ·exact hHeld
    clear hK K;try simp only[pu]
    refine' wpAnyH_take (i:=8) (oi:=⟨some 31,_,_,_,_,_⟩) (v:=_) rfl (by kernel_rfl) (by kernel_rfl) (by kernel_rfl) (fun _ _ _ h=>h) (Or.inl ⟨by rfl,?_⟩) hHeld ?_
    rotate_left
    ·(intro w' ab;(try dsimp only at ab);go_simp;(try with_reducible rfl))
    try simp only[pu]
    refine' wpAnyH_take (i:=9) (oi:=⟨some 32,_,_,_,_,_⟩) (v:=_) rfl (by kernel_rfl) (by kernel_rfl) (by kernel_rfl) (fun _ _ _ h=>h) (Or.inl ⟨by rfl,?_⟩) hHeld ?_
    rotate_left
    ·(intro w' ab;(try dsimp only at ab);go_simp;(try with_reducible rfl))
    try simp only[pu]
    refine' wpAnyH_take (i:=10) (oi:=⟨some 33,_,_,_,_,_⟩) (v:=_) rfl (by kernel_rfl) (by kernel_rfl) (by kernel_rfl) (fun _ _ _ h=>h) (Or.inl ⟨by rfl,?_⟩) hHeld ?_
    rotate_left
    ·(intro w' ab;(try dsimp only at ab);go_simp;(try with_reducible rfl))
    try simp only[pu]
    refine' wpAnyH_take (i:=11) (oi:=⟨some 34,_,_,_,_,_⟩) (v:=_) rfl (by kernel_rfl) (by kernel_rfl) (by kernel_rfl) (fun _ _ _ h=>h) (Or.inl ⟨by rfl,?_⟩) hHeld ?_
    rotate_left
    ·(intro w' ab;(try dsimp only at ab);go_simp;(try with_reducible rfl))
    try simp only[pu]
    refine' wpAnyH_take (i:=12) (oi:=⟨some 35,_,_,_,_,_⟩) (v:=_) rfl (by kernel_rfl) (by kernel_rfl) (by kernel_rfl) (fun _ _ _ h=>h) (Or.inl ⟨by rfl,?_⟩) hHeld ?_
    rotate_left
    ·(intro w' ab;(try dsimp only at ab);go_simp;(try with_reducible rfl))
    try simp only[pu]
    refine wpAnyH_ready (rs:=[13]) (by kernel_rfl) (by simp) ?_
    refine AllReadyH.cons (i:=13) rfl (fun K hK=> ?_) AllReadyH.nil;go_simp
    (go_at_call 96;refine(lL.o _ (aN.o.trans hHeld.1)).mono ?_;rintro e dj ⟨rfl,dn⟩)
    try go_wp2_with fail
    refine hK.out _ _ ?_ (fun hHeld=> ?_)
    ·exact ei.o _ _ hHeld dn
    clear hK K;try simp only[pu]
    refine' wpAnyH_take (i:=14) (oi:=⟨some 37,_,_,_,_,_⟩) (v:=_) rfl (by kernel_rfl) (by kernel_rfl) (by kernel_rfl) (fun _ _ _ h=>h) (Or.inl ⟨by rfl,?_⟩) hHeld ?_
    rotate_left
    ·(intro w' ab;(try dsimp only at ab);go_simp;(try with_reducible rfl))
    try simp only[pu]
    refine' wpAnyH_take (i:=15) (oi:=⟨some 38,_,_,_,_,_⟩) (v:=_) rfl (by kernel_rfl) (by kernel_rfl) (by kernel_rfl) (fun _ _ _ h=>h) (Or.inl ⟨by rfl,?_⟩) hHeld ?_
    rotate_left
    ·(intro w' ab;(try dsimp only at ab);go_simp;(try with_reducible rfl))
    try simp only[pu]
    refine' wpAnyH_take (i:=16) (oi:=⟨some 39,_,_,_,_,_⟩) (v:=_) rfl (by kernel_rfl) (by kernel_rfl) (by kernel_rfl) (fun _ _ _ h=>h) (Or.inl ⟨by rfl,?_⟩) hHeld ?_
    rotate_left
    ·(intro w' ab;(try dsimp only at ab);go_simp;(try with_reducible rfl))
    try simp only[pu]
    refine' wpAnyH_take (i:=17) (oi:=⟨some 40,_,_,_,_,_⟩) (v:=_) rfl (by kernel_rfl) (by kernel_rfl) (by kernel_rfl) (fun _ _ _ h=>h) (Or.inl ⟨by rfl,?_⟩) hHeld ?_
    rotate_left
    ·(intro w' ab;(try dsimp only at ab);go_simp;(try with_reducible rfl))
    try simp only[pu]
    refine' wpAnyH_take (i:=18) (oi:=⟨some 41,_,_,_,_,_⟩) (v:=_) rfl (by kernel_rfl) (by kernel_rfl) (by kernel_rfl) (fun _ _ _ h=>h) (Or.inl ⟨by rfl,?_⟩) hHeld ?_
    rotate_left
    ·(intro w' ab;(try dsimp only at ab);go_simp;(try with_reducible rfl))
    try simp only[pu]
    refine' wpAnyH_take (i:=19) (oi:=⟨some 42,_,_,_,_,_⟩) (v:=_) rfl (by kernel_rfl) (by kernel_rfl) (by kernel_rfl) (fun _ _ _ h=>h) (Or.inl ⟨by rfl,?_⟩) hHeld ?_
    rotate_left
    ·(intro w' ab;(try dsimp only at ab);go_simp;(try with_reducible rfl))
    try simp only[pu]
    refine' wpAnyH_take (i:=20) (oi:=⟨some 43,_,_,_,_,_⟩) (v:=_) rfl (by kernel_rfl) (by kernel_rfl) (by kernel_rfl) (fun _ _ _ h=>h) (Or.inl ⟨by rfl,?_⟩) hHeld ?_
    rotate_left
    ·(intro w' ab;(try dsimp only at ab);go_simp;(try with_reducible rfl))
    try simp only[pu]
    refine' wpAnyH_take (i:=21) (oi:=⟨some 44,_,_,_,_,_⟩) (v:=_) rfl (by kernel_rfl) (by kernel_rfl) (by kernel_rfl) (fun _ _ _ h=>h) (Or.inl ⟨by rfl,?_⟩) hHeld ?_
    rotate_left
    ·(intro w' ab;(try dsimp only at ab);go_simp;(try with_reducible rfl))
    try simp only[pu]
    refine' wpAnyH_take (i:=22) (oi:=⟨some 45,_,_,_,_,_⟩) (v:=_) rfl (by kernel_rfl) (by kernel_rfl) (by kernel_rfl) (fun _ _ _ h=>h) (Or.inl ⟨by rfl,?_⟩) hHeld ?_
    rotate_left
    ·(intro w' ab;(try dsimp only at ab);go_simp;(try with_reducible rfl))
    try simp only[pu]
    refine' wpAnyH_take (i:=23) (oi:=⟨some 46,_,_,_,_,_⟩) (v:=_) rfl (by kernel_rfl) (by kernel_rfl) (by kernel_rfl) (fun _ _ _ h=>h) (Or.inl ⟨by rfl,?_⟩) hHeld ?_
    rotate_left
    ·(intro w' ab;(try dsimp only at ab);go_simp;(try with_reducible rfl))
    try simp only[pu]
    refine' wpAnyH_take (i:=24) (oi:=⟨some 47,_,_,_,_,_⟩) (v:=_) rfl (by kernel_rfl) (by kernel_rfl) (by kernel_rfl) (fun _ _ _ h=>h) (Or.inl ⟨by rfl,?_⟩) hHeld ?_
    rotate_left
    ·(intro w' ab;(try dsimp only at ab);go_simp;(try with_reducible rfl))
    try simp only[pu]
    refine' wpAnyH_take (i:=25) (oi:=⟨some 48,_,_,_,_,_⟩) (v:=_) rfl (by kernel_rfl) (by kernel_rfl) (by kernel_rfl) (fun _ _ _ h=>h) (Or.inl ⟨by rfl,?_⟩) hHeld ?_
    rotate_left
    ·(intro w' ab;(try dsimp only at ab);go_simp;(try with_reducible rfl))
    try simp only[pu]
    refine' wpAnyH_take (i:=26) (oi:=⟨some 49,_,_,_,_,_⟩) (v:=_) rfl (by kernel_rfl) (by kernel_rfl) (by kernel_rfl) (fun _ _ _ h=>h) (Or.inl ⟨by rfl,?_⟩) hHeld ?_
    rotate_left
    ·(intro w' ab;(try dsimp only at ab);go_simp;(try with_reducible rfl))
    try simp only[pu]
    refine' wpAnyH_take (i:=27) (oi:=⟨some 50,_,_,_,_,_⟩) (v:=_) rfl (by kernel_rfl) (by kernel_rfl) (by kernel_rfl) (fun _ _ _ h=>h) (Or.inl ⟨by rfl,?_⟩) hHeld ?_
    rotate_left
    ·(intro w' ab;(try dsimp only at ab);go_simp;(try with_reducible rfl))
    try simp only[pu]
    refine' wpAnyH_take (i:=28) (oi:=⟨some 51,_,_,_,_,_⟩) (v:=_) rfl (by kernel_rfl) (by kernel_rfl) (by kernel_rfl) (fun _ _ _ h=>h) (Or.inl ⟨by rfl,?_⟩) hHeld ?_
    rotate_left
    ·(intro w' ab;(try dsimp only at ab);go_simp;(try with_reducible rfl))
    try simp only[pu]
    refine' wpAnyH_take (i:=29) (oi:=⟨some 52,_,_,_,_,_⟩) (v:=_) rfl (by kernel_rfl) (by kernel_rfl) (by kernel_rfl) (fun _ _ _ h=>h) (Or.inl ⟨by rfl,?_⟩) hHeld ?_
    rotate_left
    ·(intro w' ab;(try dsimp only at ab);go_simp;(try with_reducible rfl))
    try simp only[pu]
    refine' wpAnyH_take (i:=30) (oi:=⟨some 53,_,_,_,_,_⟩) (v:=_) rfl (by kernel_rfl) (by kernel_rfl) (by kernel_rfl) (fun _ _ _ h=>h) (Or.inl ⟨by rfl,?_⟩) hHeld ?_
    rotate_left
    ·(intro w' ab;(try dsimp only at ab);go_simp;(try with_reducible rfl))
    try simp only[pu]
    refine wpAnyH_done (by kernel_rfl) ?_ _
    have gH:=J (aN.o.trans hHeld.1);clear hHeld ei;go_wp2_with fail;go_roundw
    case rel=>exact⟨(p+1)+1,by omega,by go_num,iM.o,gH.o⟩
    case measure=>simp[intOf]<;>omega
   ·have ao:=J (lF.o hl);rw[decide_eq_false hl]at wP;clear hl;have ei:Hid (∀w1 w2,(fun w':World=>Ext w7 w'/\w'.cell? ⟨nb,0,none⟩=some (.string s)/\w'.cell? ⟨nb,1,none⟩=some (.int .i64 z)/\w'.cell? ⟨gb,o+p*2,none⟩=some (.string sp)) w1->Ext w1 w2->(fun w':World=>Ext w7 w'/\w'.cell? ⟨nb,0,none⟩=some (.string s)/\w'.cell? ⟨nb,1,none⟩=some (.int .i64 z)/\w'.cell? ⟨gb,o+p*2,none⟩=some (.string sp)) w2):=J (fun w1 w2 h hx=>by
     obtain⟨p0,p1,p2,p3⟩:=h;exact⟨p0.trans hx,hx.keep p1,hx.keep p2,hx.keep p3⟩)
    refine wp_region_held_drew (S:=fun w'=>Ext w7 w'/\w'.cell? ⟨nb,0,none⟩=some (.string s)/\w'.cell? ⟨nb,1,none⟩=some (.int .i64 z)/\w'.cell? ⟨gb,o+p*2,none⟩=some (.string sp)) (by kernel_rfl) (by exact⟨(Ext.refl w7).drew,dD.o.1,dD.o.2,aN.o.keep vk.o⟩) (fun hHeld=> ?_);refine' wpAnyH_take (i:=0) (oi:=⟨some 23,_,_,_,_,_⟩) (v:=_) rfl (by kernel_rfl) (by kernel_rfl) (by kernel_rfl) (fun _ _ _ h=>h) (Or.inl ⟨by rfl,?_⟩) hHeld ?_
    rotate_left
    ·(intro w' ab;(try dsimp only at ab);go_simp;(try with_reducible rfl))
    try simp only[pu]
    refine' wpAnyH_take (i:=1) (oi:=⟨some 24,_,_,_,_,_⟩) (v:=_) rfl (by kernel_rfl) (by kernel_rfl) (by kernel_rfl) (fun _ _ _ h=>h) (Or.inl ⟨by rfl,?_⟩) hHeld ?_
    rotate_left
    ·(intro w' ab;(try dsimp only at ab);go_simp;(try with_reducible rfl))
    try simp only[pu]
    refine wpAnyH_ready (rs:=[2]) (by kernel_rfl) (by simp) ?_
    refine AllReadyH.cons (i:=2) rfl (fun K hK=> ?_) AllReadyH.nil;go_simp
    (go_at_call 94;refine(kZ.o _).mono ?_;rintro e w8 ⟨rfl,rfl⟩)
    try go_wp2_with fail
    refine hK.out _ _ ?_ (fun hHeld=> ?_)
    ·exact hHeld
    clear hK K;try simp only[pu]
    refine' wpAnyH_take (i:=3) (oi:=⟨some 26,_,_,_,_,_⟩) (v:=_) rfl (by kernel_rfl) (by kernel_rfl) (by kernel_rfl) (fun _ _ _ h=>h) (Or.inl ⟨by rfl,?_⟩) hHeld ?_
    rotate_left
    ·(intro w' ab;(try dsimp only at ab);go_simp;(try with_reducible rfl))
    try simp only[pu]
    refine' wpAnyH_take (i:=4) (oi:=⟨some 27,_,_,_,_,_⟩) (v:=_) rfl (by kernel_rfl) (by kernel_rfl) (by kernel_rfl) (fun _ _ _ h=>h) (Or.inl ⟨by rfl,?_⟩) hHeld ?_
    rotate_left
    ·(intro w' ab;(try dsimp only at ab);go_simp;(try with_reducible rfl))
    try simp only[pu]
    refine' wpAnyH_take (i:=5) (oi:=⟨some 28,_,_,_,_,_⟩) (v:=_) rfl (by kernel_rfl) (by kernel_rfl) (by kernel_rfl) (fun _ _ _ h=>h) (Or.inl ⟨by rfl,?_⟩) hHeld ?_
    rotate_left
    ·(intro w' ab;(try dsimp only at ab);go_simp;(try with_reducible rfl))
    try simp only[pu]
    refine' wpAnyH_take (i:=6) (oi:=⟨some 29,_,_,_,_,_⟩) (v:=_) rfl (by kernel_rfl) (by kernel_rfl) (by kernel_rfl) (fun _ _ _ h=>h) (Or.inl ⟨by rfl,?_⟩) hHeld ?_
    rotate_left
    ·(intro w' ab;(try dsimp only at ab);go_simp;(try with_reducible rfl))
    try simp only[pu]
    refine wpAnyH_ready (rs:=[7]) (by kernel_rfl) (by simp) ?_
    refine AllReadyH.cons (i:=7) rfl (fun K hK=> ?_) AllReadyH.nil;go_simp
    (go_at_call 95;refine(qa.o _).mono ?_;rintro e w9 ⟨rfl,rfl⟩)
    try go_wp2_with fail
    refine hK.out _ _ ?_ (fun hHeld=> ?_)
    ·exact hHeld
    clear hK K;try simp only[pu]
    refine' wpAnyH_take (i:=8) (oi:=⟨some 31,_,_,_,_,_⟩) (v:=_) rfl (by kernel_rfl) (by kernel_rfl) (by kernel_rfl) (fun _ _ _ h=>h) (Or.inl ⟨by rfl,?_⟩) hHeld ?_
    rotate_left
    ·(intro w' ab;(try dsimp only at ab);go_simp;(try with_reducible rfl))
    try simp only[pu]
    refine' wpAnyH_take (i:=9) (oi:=⟨some 32,_,_,_,_,_⟩) (v:=_) rfl (by kernel_rfl) (by kernel_rfl) (by kernel_rfl) (fun _ _ _ h=>h) (Or.inl ⟨by rfl,?_⟩) hHeld ?_
    rotate_left
    ·(intro w' ab;(try dsimp only at ab);go_simp;(try with_reducible rfl))
    try simp only[pu]
    refine' wpAnyH_take (i:=10) (oi:=⟨some 33,_,_,_,_,_⟩) (v:=_) rfl (by kernel_rfl) (by kernel_rfl) (by kernel_rfl) (fun _ _ _ h=>h) (Or.inl ⟨by rfl,?_⟩) hHeld ?_
    rotate_left
    ·(intro w' ab;(try dsimp only at ab);go_simp;(try with_reducible rfl))
    try simp only[pu]
    refine' wpAnyH_take (i:=11) (oi:=⟨some 34,_,_,_,_,_⟩) (v:=_) rfl (by kernel_rfl) (by kernel_rfl) (by kernel_rfl) (fun _ _ _ h=>h) (Or.inl ⟨by rfl,?_⟩) hHeld ?_
    rotate_left
    ·(intro w' ab;(try dsimp only at ab);go_simp;(try with_reducible rfl))
    try simp only[pu]
    refine' wpAnyH_take (i:=12) (oi:=⟨some 35,_,_,_,_,_⟩) (v:=_) rfl (by kernel_rfl) (by kernel_rfl) (by kernel_rfl) (fun _ _ _ h=>h) (Or.inl ⟨by rfl,?_⟩) hHeld ?_
    rotate_left
    ·(intro w' ab;(try dsimp only at ab);go_simp;(try with_reducible rfl))
    try simp only[pu]
    refine wpAnyH_ready (rs:=[13]) (by kernel_rfl) (by simp) ?_
    refine AllReadyH.cons (i:=13) rfl (fun K hK=> ?_) AllReadyH.nil;go_simp
    (go_at_call 96;refine(lL.o _ (aN.o.trans hHeld.1)).mono ?_;rintro e dj ⟨rfl,dn⟩)
    try go_wp2_with fail
    refine hK.out _ _ ?_ (fun hHeld=> ?_)
    ·exact ei.o _ _ hHeld dn
    clear hK K;try simp only[pu]
    refine' wpAnyH_take (i:=14) (oi:=⟨some 37,_,_,_,_,_⟩) (v:=_) rfl (by kernel_rfl) (by kernel_rfl) (by kernel_rfl) (fun _ _ _ h=>h) (Or.inl ⟨by rfl,?_⟩) hHeld ?_
    rotate_left
    ·(intro w' ab;(try dsimp only at ab);go_simp;(try with_reducible rfl))
    try simp only[pu]
    refine' wpAnyH_take (i:=15) (oi:=⟨some 38,_,_,_,_,_⟩) (v:=_) rfl (by kernel_rfl) (by kernel_rfl) (by kernel_rfl) (fun _ _ _ h=>h) (Or.inl ⟨by rfl,?_⟩) hHeld ?_
    rotate_left
    ·(intro w' ab;(try dsimp only at ab);go_simp;(try with_reducible rfl))
    try simp only[pu]
    refine' wpAnyH_take (i:=16) (oi:=⟨some 39,_,_,_,_,_⟩) (v:=_) rfl (by kernel_rfl) (by kernel_rfl) (by kernel_rfl) (fun _ _ _ h=>h) (Or.inl ⟨by rfl,?_⟩) hHeld ?_
    rotate_left
    ·(intro w' ab;(try dsimp only at ab);go_simp;(try with_reducible rfl))
    try simp only[pu]
    refine' wpAnyH_take (i:=17) (oi:=⟨some 40,_,_,_,_,_⟩) (v:=_) rfl (by kernel_rfl) (by kernel_rfl) (by kernel_rfl) (fun _ _ _ h=>h) (Or.inl ⟨by rfl,?_⟩) hHeld ?_
    rotate_left
    ·(intro w' ab;(try dsimp only at ab);go_simp;(try with_reducible rfl))
    try simp only[pu]
    refine' wpAnyH_take (i:=18) (oi:=⟨some 41,_,_,_,_,_⟩) (v:=_) rfl (by kernel_rfl) (by kernel_rfl) (by kernel_rfl) (fun _ _ _ h=>h) (Or.inl ⟨by rfl,?_⟩) hHeld ?_
    rotate_left
    ·(intro w' ab;(try dsimp only at ab);go_simp;(try with_reducible rfl))
    try simp only[pu]
    refine' wpAnyH_take (i:=19) (oi:=⟨some 42,_,_,_,_,_⟩) (v:=_) rfl (by kernel_rfl) (by kernel_rfl) (by kernel_rfl) (fun _ _ _ h=>h) (Or.inl ⟨by rfl,?_⟩) hHeld ?_
    rotate_left
    ·(intro w' ab;(try dsimp only at ab);go_simp;(try with_reducible rfl))
    try simp only[pu]
    refine' wpAnyH_take (i:=20) (oi:=⟨some 43,_,_,_,_,_⟩) (v:=_) rfl (by kernel_rfl) (by kernel_rfl) (by kernel_rfl) (fun _ _ _ h=>h) (Or.inl ⟨by rfl,?_⟩) hHeld ?_
    rotate_left
    ·(intro w' ab;(try dsimp only at ab);go_simp;(try with_reducible rfl))
    try simp only[pu]
    refine' wpAnyH_take (i:=21) (oi:=⟨some 44,_,_,_,_,_⟩) (v:=_) rfl (by kernel_rfl) (by kernel_rfl) (by kernel_rfl) (fun _ _ _ h=>h) (Or.inl ⟨by rfl,?_⟩) hHeld ?_
    rotate_left
    ·(intro w' ab;(try dsimp only at ab);go_simp;(try with_reducible rfl))
    try simp only[pu]
    refine' wpAnyH_take (i:=22) (oi:=⟨some 45,_,_,_,_,_⟩) (v:=_) rfl (by kernel_rfl) (by kernel_rfl) (by kernel_rfl) (fun _ _ _ h=>h) (Or.inl ⟨by rfl,?_⟩) hHeld ?_
    rotate_left
    ·(intro w' ab;(try dsimp only at ab);go_simp;(try with_reducible rfl))
    try simp only[pu]
    refine' wpAnyH_take (i:=23) (oi:=⟨some 46,_,_,_,_,_⟩) (v:=_) rfl (by kernel_rfl) (by kernel_rfl) (by kernel_rfl) (fun _ _ _ h=>h) (Or.inl ⟨by rfl,?_⟩) hHeld ?_
    rotate_left
    ·(intro w' ab;(try dsimp only at ab);go_simp;(try with_reducible rfl))
    try simp only[pu]
    refine' wpAnyH_take (i:=24) (oi:=⟨some 47,_,_,_,_,_⟩) (v:=_) rfl (by kernel_rfl) (by kernel_rfl) (by kernel_rfl) (fun _ _ _ h=>h) (Or.inl ⟨by rfl,?_⟩) hHeld ?_
    rotate_left
    ·(intro w' ab;(try dsimp only at ab);go_simp;(try with_reducible rfl))
    try simp only[pu]
    refine' wpAnyH_take (i:=25) (oi:=⟨some 48,_,_,_,_,_⟩) (v:=_) rfl (by kernel_rfl) (by kernel_rfl) (by kernel_rfl) (fun _ _ _ h=>h) (Or.inl ⟨by rfl,?_⟩) hHeld ?_
    rotate_left
    ·(intro w' ab;(try dsimp only at ab);go_simp;(try with_reducible rfl))
    try simp only[pu]
    refine' wpAnyH_take (i:=26) (oi:=⟨some 49,_,_,_,_,_⟩) (v:=_) rfl (by kernel_rfl) (by kernel_rfl) (by kernel_rfl) (fun _ _ _ h=>h) (Or.inl ⟨by rfl,?_⟩) hHeld ?_
    rotate_left
    ·(intro w' ab;(try dsimp only at ab);go_simp;(try with_reducible rfl))
    try simp only[pu]
    refine' wpAnyH_take (i:=27) (oi:=⟨some 50,_,_,_,_,_⟩) (v:=_) rfl (by kernel_rfl) (by kernel_rfl) (by kernel_rfl) (fun _ _ _ h=>h) (Or.inl ⟨by rfl,?_⟩) hHeld ?_
    rotate_left
    ·(intro w' ab;(try dsimp only at ab);go_simp;(try with_reducible rfl))
    try simp only[pu]
    refine' wpAnyH_take (i:=28) (oi:=⟨some 51,_,_,_,_,_⟩) (v:=_) rfl (by kernel_rfl) (by kernel_rfl) (by kernel_rfl) (fun _ _ _ h=>h) (Or.inl ⟨by rfl,?_⟩) hHeld ?_
    rotate_left
    ·(intro w' ab;(try dsimp only at ab);go_simp;(try with_reducible rfl))
    try simp only[pu]
    refine' wpAnyH_take (i:=29) (oi:=⟨some 52,_,_,_,_,_⟩) (v:=_) rfl (by kernel_rfl) (by kernel_rfl) (by kernel_rfl) (fun _ _ _ h=>h) (Or.inl ⟨by rfl,?_⟩) hHeld ?_
    rotate_left
    ·(intro w' ab;(try dsimp only at ab);go_simp;(try with_reducible rfl))
    try simp only[pu]
    refine' wpAnyH_take (i:=30) (oi:=⟨some 53,_,_,_,_,_⟩) (v:=_) rfl (by kernel_rfl) (by kernel_rfl) (by kernel_rfl) (fun _ _ _ h=>h) (Or.inl ⟨by rfl,?_⟩) hHeld ?_
    rotate_left
    ·(intro w' ab;(try dsimp only at ab);go_simp;(try with_reducible rfl))
    try simp only[pu]
    refine wpAnyH_done (by kernel_rfl) ?_ _
    have gH:=J (aN.o.trans hHeld.1);clear hHeld ei;go_wp2_with fail;go_ret;exact⟨false,rfl,⟨(fun h=>by cases h),fun h=>absurd h ao.o⟩,gH.o⟩
  ·obtain rfl:k=n:=by omega
   have bV:=J (HS.o.ok (by rw[<-HN.o];exact qad _) uD.o);have aW:=J (EC wr _ env (re.o.ext hx) (by rw[<-HN.o];omega) fb.o);clear hx HS iO;go_wp2_with fail;refine aW.o.mono ?_
   rintro e w2 ⟨bm,rfl,ee,av,al⟩;have am:=J (HX.o.trans al);have aF:=J av;have uK:=J (AP.lt av);clear ee av al aW HX;go_wp2_with fail;go_loopw [9,10,11,12,59] (fun _ _ _ _ so wr=>∃j:Nat,j<=k/\so= .int .i64 (j:Int)/\Fv ns env j/\Ext w2 wr) (fun _ _ _ _ so _=>k-(intOf so).toNat)
   case atStart=>exact⟨0,qal _,rfl,Fv.start ns env,Ext.refl w2⟩
   case round=>
    obtain⟨j,hj,rfl,hf,hx⟩:=hrel;have HF:=J hf;have HX:=J hx;clear hf;generalize wr=wa at *;by_cases hlt:j<k
    ·have jg:j<env.length:=by rw[<-HN.o];exact hlt
     obtain⟨gb,o,rfl,bC,hc⟩:=cw.o (by rw[<-HN.o];omega);obtain⟨p0,p1⟩:=hc j jg;rw[<-(am.o.trans hx).cell bC]at p0 p1;have hgr:gb<wa.heap.size:=qaj bC (am.o.trans hx).size;have mO:(0:Int)<=(j:Int):=by omega
     have nA:(j:Int)<(k:Int):=by omega
     have y9:IntKind.i64.wrap ((j:Int)+1)=(j:Int)+1:=IntWalk.i64_in _ (by omega);have aP:=J (fun h1 h2=>HF.o.step jg h1 h2);have aW:=bV.o.node _ (qap jg);have cP:Hid (Bv ns env->CY ns env env[j].2.toNat/\¬BO ns env env[j].2.toNat env[j].1):=J (fun h=>⟨h.bound _ (qap jg),h.free _ (qap jg)⟩);clear hc hx;generalize env[j]=y at *;clear jg;obtain⟨t,z⟩:=y;simp only at p0 p1 aP aW cP;have yu:=J aW;obtain⟨s,hs⟩:∃s:ByteArray,str t= .string s:=⟨_,rfl⟩;rw[hs]at p0;have i5:=J hs;clear hs aW;go_upto_region 13 with fail;have gl:=Blk.new wa 62 #[.string s,.int .i64 z];have bG:=(Ext.refl wa).alloc (.cells #[.string s,.int .i64 z] 62);generalize wa.alloc (.cells #[.string s,.int .i64 z] 62)=w7 at *;generalize wa.heap.size=nb at *;obtain⟨q0,q1⟩:=gl.twoB;have aN:=J (HX.o.trans bG);have dD:=J gl;have db:=J (DM B g b w7 ns nv (HG.o.keep (am.o.trans aN.o)) z);unfold Dc at db;clear gl bG p0 p1 hgr;go_wp2_with fail;refine db.o.mono ?_
     rintro e w3 ⟨v3,l,rfl,_,eZ,_,ae,lU⟩;have ag:=J (aN.o.trans ae);have aC:=J (AP.ext aF.o ag.o);have ck:=J (dD.o.ext ae);obtain⟨hl2,je⟩:=Bs.texts HG.o.ok eZ;have Vv:=HG.o.few;have mX:=J (Gx B g b w3 ns nv (HG.o.keep (am.o.trans ag.o)) bm _ _ aC.o _ v3 l lU (by omega) (fun t ht=>by have:=CJ HG.o.ok t (je t ht);omega) (Bi ns z) (Bi.mem eZ));unfold F0 at mX;obtain⟨A3,c3,rfl⟩:=lU.shape;clear eZ ae lU hl2 je db q0 q1;go_wp2_with fail;refine mX.o.mono ?_
     rintro e w4 ⟨sb,c4,rfl,hsb,kU,mR,aJ⟩;have aD:=J (ag.o.trans aJ);have eK:=J (AP.ext aC.o aJ);have dl:=J (ck.o.ext aJ);obtain⟨w5,Wi,j9,oj,hx5,zh⟩:=kU.range;have ba:=J (aD.o.trans hx5);have cm:=J (AP.ext eK.o hx5);have b9:=J (dl.o.ext hx5);have bH:=J oj;obtain⟨rb,ke⟩:∃rb,rb=w4.heap.size:=⟨_,rfl⟩;have kO:Hid (bm<rb):=J (by rw[ke];exact AP.lt eK.o);have WJ:Hid (nb<rb):=J (by rw[ke];exact dl.o.lt);have fc:Hid (w2.heap.size<=rb):=J (by have:=aD.o.size;omega);rw[<-ke]at j9 bH;have uE:=J (Bi.dep bV.o yu.o.1 yu.o.2);generalize CW ns (Cg env) (Bi ns z)=SS at *;clear hsb kU aJ oj hx5 zh ke mX aC ck eK dl;go_wp2_with fail;clear j9;go_loopw [10,11,12] (fun _ _ _ wr=>∃L cnt,RgS wr sb rb c4 SS L cnt/\(∀t',SS t'->L t'\/(0<=AH env t'/\t'≠t))/\DR wr bm env.length (Cg env)/\Blk wr nb 62 #[.string s,.int .i64 z]/\Ext w2 wr) (fun _ _ _ wr=>wr.rangeLeft sb rb)
     case atStart=>exact⟨_,_,bH.o,fun t ht=> .inl ht,cm.o,b9.o,ba.o⟩
     case round=>
      clear bH cm b9 ba aD ag;obtain⟨L,cnt,kc,jx,ee,mN,hx⟩:=hrel;have fm:=J kc.left_eq;rcases kc.next 0 with ⟨h0,hL,bq⟩|⟨t',q,w6,Wh,hL,hS,ak,bq,ka,bu,hgr,qH⟩
      ·have iM:=J (aP.o (fun t' ht=>((jx t' ((uE.o t').2 ht)).resolve_left (hL t')).1) (fun hd=>((jx t ((uE.o t).2 hd)).resolve_left (hL t)).2 rfl));have HXN:=J hx;clear hL jx ee mN hx kc fm;go_wp2_with fail;go_roundw
       case rel=>exact⟨j+1,by omega,by go_num,iM.o,HXN.o⟩
       case measure=>simp[intOf]<;>omega
      ·have hne:rb≠bm:=by have:=kO.o;omega
       have hne2:rb≠nb:=by have:=WJ.o;omega
       have i4:DR w6 bm env.length (Cg env):=AP.at ee (hgr.block bm (AP.lt ee) (fun e=>hne (by injection e with e;exact e.symm)));have oD:Blk w6 nb 62 #[.string s,.int .i64 z]:=(hgr.block nb mN.lt (fun e=>hne2 (by injection e with e;exact e.symm))).trans mN;obtain⟨gG,_⟩:=i4.look t' ak;obtain⟨q0,q1⟩:=oD.twoB;have fw:=bV.o.map t';have aZ:=J (hx.grown hgr (fun k e=>by injection e with e;subst e;exact fc.o));have sd:=J i4;have cN:=J oD;have fW:=J ka;have bD:=J bu;have pL:=J jx;have vm:=J ((uE.o t').1 hS);obtain⟨u,hu⟩:∃u:ByteArray,str t'= .string u:=⟨_,rfl⟩;rw[hu]at gG bq qH;have oc:=NK hu i5.o;by_cases hf:0<=AH env t'
       ·rw[if_pos hf]at fw;rw[fw]at gG;simp only[qct,Option.isSome_some]at gG;by_cases hte:t'=t
        ·have aX:Hid (¬Bv ns env):=J (fun h=>(cP.o h).2 (hte ▸ vm.o));rw[decide_eq_true hte]at oc;clear hte hf fw kc jx ee mN hx ka bu hgr i4 oD hu hL hS hne hne2;go_wp2_with fail;go_ret;exact⟨false,rfl,⟨(fun h=>by cases h),fun h=>absurd h aX.o⟩,am.o.trans aZ.o⟩
        ·have W7:Hid (∀x,SS x->(L x/\x≠t')\/(0<=AH env x/\x≠t)):=J (fun x al=>by
          by_cases e:x=t'
          ·exact .inr (by rw[e];exact⟨hf,hte⟩)
          ·exact(pL.o x al).imp (fun h=>⟨h,e⟩) (fun h=>h))
         rw[decide_eq_false hte]at oc;clear hte hf fw kc jx ee mN hx ka bu hgr i4 oD hu hL hS hne hne2;go_wp2_with fail;go_roundw
         case rel=>exact⟨_,_,fW.o,W7.o,sd.o,cN.o,aZ.o⟩
         case measure=>rw[fm.o,fW.o.left_eq];exact bD.o
       ·rw[if_neg hf]at fw;rw[fw]at gG;simp only[qcd,qbY]at gG;have aX:Hid (¬Bv ns env):=J (fun h=>hf ((cP.o h).1 t' vm.o));clear hf fw kc jx ee mN hx ka bu hgr i4 oD hu hL hS hne hne2 oc;go_wp2_with fail;go_ret;exact⟨false,rfl,⟨(fun h=>by cases h),fun h=>absurd h aX.o⟩,am.o.trans aZ.o⟩
    ·obtain rfl:j=k:=by omega
     have eQ:=J (HF.o.good (by rw[<-HN.o];exact qad _) bV.o);clear hx;go_wp2_with fail;go_ret;exact⟨true,rfl,⟨fun _=>eQ.o,fun _=>rfl⟩,am.o.trans HX.o⟩
def PD(ns:List Nd)(env:Env)(t s:Tx):Prop:=0<=AH env t/\AK ns (AH env t).toNat s
structure IK (ns:List Nd) (env:Env) (T:Tx->Prop) (U:List Tx) (L:List Tx) (i:Nat):Prop where
 asc:Asc L
 reach:∀t∈L,AO ns env T t
 base:∀t,T t->t∈L
 clos:∀t∈L.take i,∀s,PD ns env t s->s∈L
 inU:∀t∈L,t∈U
 le:i<=L.length
section
variable {ns:List Nd} {env:Env} {T:Tx->Prop} {U L:List Tx} {i:Nat}
theorem IK.start{ls:List Tx}(hT:∀t,T t↔t∈ls)(hU:∀t∈ls,t∈U):IK ns env T U (BZ ls) 0:=
 ⟨Gg _,fun t ht=> .here ((hT t).2 (Cn.1 ht)),fun t ht=>Cn.2 ((hT t).1 ht),(fun t ht=>by rw[qaK]at ht;cases ht),fun t ht=>hU t (Cn.1 ht),qal _⟩
theorem IK.len(h:IK ns env T U L i):L.length<=U.length:=D7 h.asc.nodup h.inU
theorem IK.more(h:IK ns env T U L i)(hi:i<L.length){l:List Tx}(hl:∀s,PD ns env L[i] s↔s∈l)(je:∀t∈l,t∈U):IK ns env T U (BZ (L++l)) 0/\L.length<=(BZ (L++l)).length/\((BZ (L++l)).length<=L.length->IK ns env T U L (i+1)):=by
 have fP:∀t∈L,t∈BZ (L++l):=fun t ht=>Cn.2 (qaT _ ht)
 refine⟨⟨Gg _,fun t ht=> ?_,fun t ht=>fP t (h.base t ht),(fun t ht=>by rw[qaK]at ht;cases ht),fun t ht=> ?_,qal _⟩,D7 h.asc.nodup fP,fun hle=> ?_⟩
 ·rcases qax.1 (Cn.1 ht) with ht|ht
  ·exact h.reach t ht
  ·have hs:=(hl t).2 ht;exact .step (h.reach _ (qap hi)) hs.1 hs.2
 ·rcases qax.1 (Cn.1 ht) with ht|ht
  ·exact h.inU t ht
  ·exact je t ht
 ·have he:=SU h.asc (Gg (L++l)) fP hle;refine⟨h.asc,h.reach,h.base,fun t ht s hs=> ?_,h.inU,hi⟩;rw[qah hi]at ht;rcases qax.1 ht with ht|ht
  ·exact h.clos t ht s hs
  ·rw[qav]at ht;subst ht;rw[he];exact Cn.2 (qbK _ ((hl s).1 hs))
theorem IK.done(h:IK ns env T U L L.length)(t:Tx):t∈L↔AO ns env T t:=by
 constructor
 ·exact h.reach t
 ·intro ht
  induction ht with
  |here ht=>exact h.base _ ht
  |step _ h1 h2 ih=>exact h.clos _ (by rw[qbr];exact ih) _ ⟨h1,h2⟩
end
theorem Mc{ns:List Nd}{env:Env}{x:Tx}{l:List Tx}(h0:0<=AH env x)(hl:Bs ns (AH env x) l)(s:Tx):PD ns env x s↔s∈l:=by
 rw[<-Bi.mem hl s];constructor
 ·rintro⟨h1,h2⟩;have:=h2.lt;exact⟨h1,by omega,h2⟩
 ·rintro⟨h1,_,h2⟩;exact⟨h1,h2⟩
theorem NN{ns:List Nd}{env:Env}{x:Tx}(h0:¬0<=AH env x)(s:Tx):PD ns env x s↔s∈([]:List Tx):=by
 constructor
 ·rintro⟨h1,_⟩;exact absurd h1 h0
 ·intro h;cases h
def Ic(ns:List Nd)(env:Env)(T:Tx->Prop)(U:List Tx)(w:World)(e:Ending)(w':World):Prop:=∃v l,e= .returned v/\Ce w.heap.size w' v l/\Asc l/\(∀t,t∈l↔AO ns env T t)/\(∀t∈l,t∈U)/\l.length<=10000/\Ext w w'
theorem Qb(B g:Nat)(w:World)(ns:List Nd)(rv:Value)(h:GrR B g w ns rv)(v:Value)(env:Env)(he:RdE w v env)(hn:env.length<=100000)(u:Value)(ls:List Tx)(hu:BB w u ls)(gZ:ls.length<=5000)(T:Tx->Prop)(hT:∀t,T t↔t∈ls)(U:List Tx)(je:∀t∈ls,t∈U)(XG:∀t∈Dz ns,t∈U)(hUl:U.length<=10000)(V1:∀t∈U,t.length<=1000000):
  Calls Tryz.prog 100 #[.pointer (some ⟨g,0,none⟩),v,u] w (Ic ns env T U w):=by
 have HG:=J h;have yc:=J V1;have HNU:=J XG;have aP:=J (IK.start (ns:=ns) (env:=env) (U:=U) hT je);have yh:=J (Du w u ls hu (by omega) (fun t ht=>by have:=V1 t (je t ht);omega));have et:=J (fun W (hx:Ext w W) t=>FI W v env (he.ext hx) hn t);have db:=J (fun W (hx:Ext w W) z=>FH B g W ns rv (HG.o.keep hx) z);unfold E4 at db;unfold Ic;obtain⟨A,c,rfl⟩:=IZ he;obtain⟨m0,A0,c0,rfl⟩:=hu.shape;clear h he hu gZ hT je XG V1;go_enter Tryz.func100,Tryz.ntmps100;go_wp2_with fail;refine yh.o.mono ?_
 rintro e w1 ⟨v1,rfl,cK,ar⟩;have fM:=J cK;have ah:=J ar;obtain⟨m1,A1,c1,rfl⟩:=cK.arr.shape;clear cK ar yh;go_wp2_with fail
 go_loopg [7,8,9,10] ((U.length-(BZ ls).length)*20000+(BZ ls).length) (fun gh s7 s8 _ _ wr=>∃(L:List Tx) (i:Nat),gh=(U.length-L.length)*20000+(L.length-i)/\s8= .int .i64 (i:Int)/\Ce w.heap.size wr s7 L/\IK ns env T U L i/\Ext w wr)
 case atStart=>exact⟨_,0,rfl,rfl,fM.o,aP.o,ah.o⟩
 case round=>
  clear fM aP ah;obtain⟨L,i,iT,rfl,ho,hr,hx⟩:=hrel;have fo:=J iT;have HO:=J ho;have HR:=J hr;have HX:=J hx;have gZ:=hr.len;have hil:=hr.le;obtain⟨m7,A7,c7,rfl⟩:=ho.arr.shape;have XQ:=ho.arr.len;obtain⟨n7,gX⟩:∃n7,n7=L.length:=⟨_,rfl⟩;rw[<-gX]at gZ hil XQ;have de:=J gX;obtain rfl:m7=n7:=by omega
  clear iT ho hr hx gX XQ;by_cases hlt:i<m7
  ·have qE:i<L.length:=by rw[<-de.o];exact hlt
   have nI:=J (fun l h1 h2=>HR.o.more qE (l:=l) h1 h2);obtain⟨_,_,hv,_,_,bj⟩:=HO.o.arr.open;injection hv with hv1 hv2 hv3
   subst hv1;clear hv2 hv3;obtain⟨gb,o,rfl,cW,bj⟩:=bj (by omega);have p0:=bj i qE;have aE:=yc.o _ (HR.o.inU _ (qap qE));have dW:(0:Int)<=(i:Int):=by omega
   have nB:(i:Int)<(m7:Int):=by omega
   have lS:IntKind.i64.wrap ((i:Int)+1)=(i:Int)+1:=IntWalk.i64_in _ (by omega);generalize L[i]=x at *;have mr:=J (fun W (hx:Ext w W)=>et.o W hx x);have jD:=J (fun l h0 hl=>Mc (ns:=ns) (env:=env) (x:=x) (l:=l) h0 hl);have fV:=J (NN (ns:=ns) (env:=env) (x:=x));generalize AH env x=z at *;obtain⟨s,hs⟩:∃s:ByteArray,str x= .string s:=⟨_,rfl⟩;rw[hs]at mr p0;have gB:=J p0;clear bj qE hs aE p0;go_wp2_with (at_builtin;go_must (refine Dh (B:=wr.heap.size) rfl _ _ rfl rfl (Ce.empty wr.heap.size _ _) rfl (HO.o.arr.ext ((Ext.refl _).alloc _)) (by have:=de.o;simp;omega) (by simp) ?_;intro v5 w5 eI kp fB;rw[qaG]at eI;have ba:Hid (Ext wr w5):=J (((Ext.refl wr).alloc _).more fB);have ic:=J eI;have p0:=(ba.o.cell cW).trans gB.o;have hgb5:gb<w5.heap.size:=qaj cW ba.o.size;obtain⟨m5,A5,c5,rfl⟩:=eI.arr.shape;clear eI kp fB));go_wp2_with fail;refine(mr.o w5 (HX.o.trans ba.o)).mono ?_
   rintro e w6 ⟨rfl,bz⟩;have aZ:=J (ba.o.trans bz);have cj:=J (ic.o.ext bz);clear bz p0 ba ic mr et;by_cases hz:0<=z
   ·have p5:decide (z>=0)=true:=decide_eq_true hz;have HZ:=J hz;have fF:=J (db.o w6 (HX.o.trans aZ.o) z);clear db hz;go_wp2_with fail;refine fF.o.mono ?_
    rintro e w8 ⟨v8,l8,rfl,tP,ro,el,bS⟩;have q5:=J (jD.o l8 HZ.o ro);have ml:=J (Bs.texts HG.o.ok ro);have nJ:Hid (∀t∈l8,t∈U):=J (fun t ht=>HNU.o t (ml.o.2 t ht));have cp:=J (aZ.o.trans bS);have uj:=J (cj.o.ext bS);have zX:=J tP;have hfew:=HG.o.few;have el:=ml.o.1;obtain⟨m8,A8,c8,rfl⟩:=tP.shape;clear tP ro bS fF aZ cj jD fV;have nK:Hid (L.length+l8.length<=2147483648):=J (by have:=de.o;omega);go_wp2_with (at_builtin;go_must (refine Dh (B:=wr.heap.size) rfl _ _ rfl rfl uj.o rfl zX.o nK.o cp.o.size ?_;intro v9 w9 ft dr p6));have dI:=J (cp.o.more p6);have ui:=J ft;clear ft dr p6 cp uj zX;have eh:=J (nI.o l8 (q5.o) (nJ.o));clear nI;have ib:=J (Du w9 _ (L++l8) ui.o.arr (by rw[qab];have:=de.o;omega) (fun t ht=>by
     have h1:t∈U:=(eh.o.1.inU t (Cn.2 ht));have:=yc.o t h1;omega))
    generalize BZ (L++l8)=L2 at *;obtain⟨mq,Aq,cq,rfl⟩:=ui.o.arr.shape;clear ui;go_wp2_with fail;refine ib.o.mono ?_
    rintro e wz ⟨vz,rfl,fg,mD⟩;have xX:=J (HX.o.trans (dI.o.trans mD));have mZ:=J (fg.mono (qaf HX.o.size dI.o.size));have jH:=J (HO.o.ext (dI.o.trans mD));obtain⟨mz,Az,cz,rfl⟩:=fg.arr.shape;have iZ:=fg.arr.len;have xJ:=eh.o.1.len;have xK:=eh.o.2.1;have gX:=de.o;clear fg mD ib HO HX dI;by_cases hgt:m7<mz
    ·have hd:decide ((mz:Int)>(m7:Int))=true:=decide_eq_true (by omega);have bE:(m7:Int)<(mz:Int):=by omega
     have eO:=J eh.o.1;have q8:Hid ((U.length-L2.length)*20000+(L2.length-0)<(U.length-L.length)*20000+(L.length-i)):=J (by omega);clear iZ xJ xK gX eh jH bE;go_wp2_with fail
     go_roundg ((U.length-L2.length)*20000+(L2.length-0))
     case rel=>exact⟨L2,0,rfl,rfl,mZ.o,eO.o,xX.o⟩
     case measure=>rw[fo.o];exact q8.o
    ·have hd:decide ((mz:Int)>(m7:Int))=false:=decide_eq_false (by omega);have bE:¬(m7:Int)<(mz:Int):=by omega
     have eO:=J (eh.o.2.2 (by omega));have q8:Hid ((U.length-L.length)*20000+(L.length-(i+1))<(U.length-L.length)*20000+(L.length-i)):=J (by omega);clear iZ xJ xK gX eh mZ bE;go_wp2_with fail
     go_roundg ((U.length-L.length)*20000+(L.length-(i+1)))
     case rel=>exact⟨L,i+1,rfl,by go_num,jH.o,eO.o,xX.o⟩
     case measure=>rw[fo.o];exact q8.o
   ·have p5:decide (z>=0)=false:=decide_eq_false hz;have q5:=J (fV.o (by omega));have nJ:Hid (∀t∈([]:List Tx),t∈U):=J (fun t ht=>by cases ht);have ui:Hid (Ce wr.heap.size w6 (.slice A5 m5 c5) (L++[])):=J (by rw[qaW];exact cj.o);clear hz db jD fV cj;obtain⟨l8,el⟩:∃l8:List Tx,l8=[]:=⟨_,rfl⟩;rw[<-el]at q5 nJ ui;have el:l8.length=0:=by rw[el];rfl
    have eh:=J (nI.o l8 (q5.o) (nJ.o));clear nI;have ib:=J (Du w6 _ (L++l8) ui.o.arr (by rw[qab];have:=de.o;omega) (fun t ht=>by
     have h1:t∈U:=(eh.o.1.inU t (Cn.2 ht));have:=yc.o t h1;omega))
    generalize BZ (L++l8)=L2 at *;clear ui;go_wp2_with fail;refine ib.o.mono ?_
    rintro e wz ⟨vz,rfl,fg,mD⟩;have xX:=J (HX.o.trans (aZ.o.trans mD));have mZ:=J (fg.mono (qaf HX.o.size aZ.o.size));have jH:=J (HO.o.ext (aZ.o.trans mD));obtain⟨mz,Az,cz,rfl⟩:=fg.arr.shape;have iZ:=fg.arr.len;have xJ:=eh.o.1.len;have xK:=eh.o.2.1;have gX:=de.o;clear fg mD ib HO HX aZ;by_cases hgt:m7<mz
    ·have hd:decide ((mz:Int)>(m7:Int))=true:=decide_eq_true (by omega);have bE:(m7:Int)<(mz:Int):=by omega
     have eO:=J eh.o.1;have q8:Hid ((U.length-L2.length)*20000+(L2.length-0)<(U.length-L.length)*20000+(L.length-i)):=J (by omega);clear iZ xJ xK gX eh jH bE;go_wp2_with fail
     go_roundg ((U.length-L2.length)*20000+(L2.length-0))
     case rel=>exact⟨L2,0,rfl,rfl,mZ.o,eO.o,xX.o⟩
     case measure=>rw[fo.o];exact q8.o
    ·have hd:decide ((mz:Int)>(m7:Int))=false:=decide_eq_false (by omega);have bE:¬(m7:Int)<(mz:Int):=by omega
     have eO:=J (eh.o.2.2 (by omega));have q8:Hid ((U.length-L.length)*20000+(L.length-(i+1))<(U.length-L.length)*20000+(L.length-i)):=J (by omega);clear iZ xJ xK gX eh mZ bE;go_wp2_with fail
     go_roundg ((U.length-L.length)*20000+(L.length-(i+1)))
     case rel=>exact⟨L,i+1,rfl,by go_num,jH.o,eO.o,xX.o⟩
     case measure=>rw[fo.o];exact q8.o
  ·obtain rfl:i=m7:=by omega
   have HE:Hid (∀t,t∈L↔AO ns env T t):=J (by
    have h:=HR.o;rw[de.o]at h;exact h.done)
   have HF:=J (And.intro HR.o.asc HR.o.inU);have qz:L.length<=10000:=by rw[<-de.o];omega
   have HLL:=J qz;clear qz HR;go_wp2_with fail;go_ret;exact⟨_,L,rfl,HO.o,HF.o.1,HE.o,HF.o.2,HLL.o,HX.o⟩
theorem NH{ns:List Nd}{env:Env}{id:Int}(h0:0<=id)(h1:id<(ns.length:Int))(t:Tx):AO ns env (Bi ns id) t↔AO ns env (AK ns id.toNat) t:=
 ⟨AO.mono (fun _ ht=>ht.2.2),AO.mono (fun _ ht=>⟨h0,h1,ht⟩)⟩
theorem Oe{B:Nat}{w:World}{v:Value}{l:List Tx}(h:Ce B w v l):∃A c,v= .slice A l.length c:=by
 obtain⟨m,A,c,rfl⟩:=h.arr.shape;have:=h.arr.len;exact⟨A,c,by rw[this]⟩
theorem Ll(B g:Nat)(w:World)(ns:List Nd)(rv:Value)(h:GrR B g w ns rv)(v:Value)(env:Env)(he:RdE w v env)(hn:env.length<=100000)(dy:TxE env):
  Calls Tryz.prog 35 #[.pointer (some ⟨g,0,none⟩),v] w (D8 ns env w):=by
 have HG:=J h;have re:=J he;have fb:=J dy;have iO:=J (fun W (hx:Ext w W) z=>Fh B g W ns rv (HG.o.keep hx) z);have et:=J (fun W (hx:Ext w W) t=>FI W v env (he.ext hx) hn t);obtain⟨A,c,rfl,bj⟩:=he;have cw:=J bj;obtain⟨n,bB⟩:∃n,n=env.length:=⟨_,rfl⟩;have HN:=J bB;unfold D8;clear h bj dy;by_cases hfew:env.length<=64;rotate_left
 ·have HB:=J (PB (ns:=ns) hfew);have hd:decide ((n:Int)>64)=true:=decide_eq_true (by omega);have bE:(64:Int)<(n:Int):=by omega
  rw[<-bB]at hn re et ⊢;clear bB hfew bE;go_enter Tryz.func35,Tryz.ntmps35;go_wp2_with fail;go_ret;exact⟨false,rfl,⟨(fun h=>by cases h),fun h=>absurd h HB.o⟩,Ext.refl w⟩
 have uD:=J hfew;have hd:decide ((n:Int)>64)=false:=decide_eq_false (by omega);have bE:¬(64:Int)<(n:Int):=by omega
 have U6:n<=64:=by omega
 rw[<-bB]at hn re et ⊢;clear bB hfew bE;go_enter Tryz.func35,Tryz.ntmps35;go_wp2_with fail;go_loopw [5,17] (fun _ Us wr=>∃k:Nat,k<=n/\Us= .int .i64 (k:Int)/\Fu ns env k/\Ext w wr) (fun _ Us _=>n-(intOf Us).toNat)
 case atStart=>exact⟨0,qal _,rfl,Fu.start ns env,Ext.refl w⟩
 case round=>
  clear hd;obtain⟨k,hk,rfl,hs,hx⟩:=hrel;have HS:=J hs;have HX:=J hx;clear hs;by_cases hlt:k<n
  ·have bT:k<env.length:=by rw[<-HN.o];exact hlt
   have fK:=cw.o (by rw[<-HN.o];omega);obtain⟨gb,o,rfl,bC,hc⟩:=fK;obtain⟨p0,p1⟩:=hc k bT;rw[<-hx.cell bC]at p0 p1;have g3:(0:Int)<=(k:Int):=by omega
   have oC:(k:Int)<(n:Int):=by omega
   have jn:IntKind.i64.wrap ((k:Int)+1)=(k:Int)+1:=IntWalk.i64_in _ (by omega);have aP:=J (fun h1 h2 h3=>HS.o.step bT h1 h2 h3);have cO:=J (No (ns:=ns) bT);have cP:=J (Nn (ns:=ns) bT);have mV:=J (fb.o _ (qap bT));have fX:Hid (k=0\/∃p,k=p+1/\∃hp:p<env.length,w.cell? ⟨gb,o+p*2,none⟩=some (str env[p].1)/\(env[p].1<env[k].1->Eu (env.take (k+1)))/\(¬env[p].1<env[k].1->¬Bv ns env)):=J (by
    rcases k with _|p
    ·exact .inl rfl
    ·refine .inr ⟨p,rfl,by omega,(hc p (by omega)).1,fun h=>Nr bT HS.o.2 h,fun h=>PC bT h⟩)
   have W5:Hid (k=0->Eu (env.take (k+1))):=J (fun h=>by subst h;exact Lb bT);clear hc hx;generalize env[k]=y at *;clear bT;obtain⟨t,z⟩:=y;simp only at p0 p1 aP cO cP mV fX;have kZ:=J (fun W=>KA W t (by have:=mV.o.1;omega));obtain⟨s,hs⟩:∃s:ByteArray,str t= .string s:=⟨_,rfl⟩;rw[hs]at p0 kZ;have i5:=J hs;clear hs;go_upto_region 6 with fail;have gl:=Blk.new wr 62 #[.string s,.int .i64 z];have bG:=(Ext.refl wr).alloc (.cells #[.string s,.int .i64 z] 62);generalize wr.alloc (.cells #[.string s,.int .i64 z] 62)=w7 at *;generalize wr.heap.size=nb at *;have aN:=J (HX.o.trans bG);have dD:=J gl.twoB;clear gl bG p0 p1;obtain⟨wb,hwb⟩:∃wb,CQ t=wb:=⟨_,rfl⟩;have ul:=J hwb;rw[hwb]at kZ;clear hwb;cases wb
   ·have ao:=J (cO.o ul.o);clear iO;have ei:Hid (∀w1 w2,(fun w':World=>Ext w7 w'/\w'.cell? ⟨nb,0,none⟩=some (.string s)/\w'.cell? ⟨nb,1,none⟩=some (.int .i64 z)) w1->Ext w1 w2->(fun w':World=>Ext w7 w'/\w'.cell? ⟨nb,0,none⟩=some (.string s)/\w'.cell? ⟨nb,1,none⟩=some (.int .i64 z)) w2):=J (fun w1 w2 h hx=>by
     obtain⟨p0,p1,p2⟩:=h;exact⟨p0.trans hx,hx.keep p1,hx.keep p2⟩)
    refine wp_region_held_drew (S:=fun w'=>Ext w7 w'/\w'.cell? ⟨nb,0,none⟩=some (.string s)/\w'.cell? ⟨nb,1,none⟩=some (.int .i64 z)) (by kernel_rfl) (by exact⟨(Ext.refl w7).drew,dD.o.1,dD.o.2⟩) (fun hHeld=> ?_);refine' wpAnyH_take (i:=0) (oi:=⟨some 22,_,_,_,_,_⟩) (v:=_) rfl (by kernel_rfl) (by kernel_rfl) (by kernel_rfl) (fun _ _ _ h=>h) (Or.inl ⟨by rfl,?_⟩) hHeld ?_
    rotate_left
    ·(intro w' ab;(try dsimp only at ab);go_simp;(try with_reducible rfl))
    try simp only[pu]
    refine' wpAnyH_take (i:=1) (oi:=⟨some 23,_,_,_,_,_⟩) (v:=_) rfl (by kernel_rfl) (by kernel_rfl) (by kernel_rfl) (fun _ _ _ h=>h) (Or.inl ⟨by rfl,?_⟩) hHeld ?_
    rotate_left
    ·(intro w' ab;(try dsimp only at ab);go_simp;(try with_reducible rfl))
    try simp only[pu]
    refine wpAnyH_ready (rs:=[2]) (by kernel_rfl) (by simp) ?_
    refine AllReadyH.cons (i:=2) rfl (fun K hK=> ?_) AllReadyH.nil;go_simp
    (go_at_call 99;refine(kZ.o _).mono ?_;rintro e w8 ⟨rfl,bS⟩)
    try go_wp2_with fail
    refine hK.out _ _ ?_ (fun hHeld=> ?_)
    ·exact ei.o _ _ hHeld bS
    clear hK K;try simp only[pu]
    refine' wpAnyH_take (i:=3) (oi:=⟨some 25,_,_,_,_,_⟩) (v:=_) rfl (by kernel_rfl) (by kernel_rfl) (by kernel_rfl) (fun _ _ _ h=>h) (Or.inl ⟨by rfl,?_⟩) hHeld ?_
    rotate_left
    ·(intro w' ab;(try dsimp only at ab);go_simp;(try with_reducible rfl))
    try simp only[pu]
    refine' wpAnyH_take (i:=4) (oi:=⟨some 26,_,_,_,_,_⟩) (v:=_) rfl (by kernel_rfl) (by kernel_rfl) (by kernel_rfl) (fun _ _ _ h=>h) (Or.inl ⟨by rfl,?_⟩) hHeld ?_
    rotate_left
    ·(intro w' ab;(try dsimp only at ab);go_simp;(try with_reducible rfl))
    try simp only[pu]
    refine' wpAnyH_take (i:=5) (oi:=⟨some 27,_,_,_,_,_⟩) (v:=undef) rfl (by kernel_rfl) (by kernel_rfl) (by kernel_rfl) (fun _ _ _ h=>h) (Or.inr ⟨by rfl,rfl⟩) hHeld ?_
    try simp only[pu]
    refine' wpAnyH_take (i:=6) (oi:=⟨some 28,_,_,_,_,_⟩) (v:=undef) rfl (by kernel_rfl) (by kernel_rfl) (by kernel_rfl) (fun _ _ _ h=>h) (Or.inr ⟨by rfl,rfl⟩) hHeld ?_
    try simp only[pu]
    refine' wpAnyH_take (i:=7) (oi:=⟨some 29,_,_,_,_,_⟩) (v:=undef) rfl (by kernel_rfl) (by kernel_rfl) (by kernel_rfl) (fun _ _ _ h=>h) (Or.inr ⟨by rfl,rfl⟩) hHeld ?_
    try simp only[pu]
    refine' wpAnyH_take (i:=8) (oi:=⟨some 30,_,_,_,_,_⟩) (v:=undef) rfl (by kernel_rfl) (by kernel_rfl) (by kernel_rfl) (fun _ _ _ h=>h) (Or.inr ⟨by rfl,rfl⟩) hHeld ?_
    try simp only[pu]
    refine' wpAnyH_take (i:=9) (oi:=⟨some 31,_,_,_,_,_⟩) (v:=undef) rfl (by kernel_rfl) (by kernel_rfl) (by kernel_rfl) (fun _ _ _ h=>h) (Or.inr ⟨by rfl,rfl⟩) hHeld ?_
    try simp only[pu]
    refine' wpAnyH_take (i:=10) (oi:=⟨some 32,_,_,_,_,_⟩) (v:=undef) rfl (by kernel_rfl) (by kernel_rfl) (by kernel_rfl) (fun _ _ _ h=>h) (Or.inr ⟨by rfl,rfl⟩) hHeld ?_
    try simp only[pu]
    refine' wpAnyH_take (i:=11) (oi:=⟨some 33,_,_,_,_,_⟩) (v:=undef) rfl (by kernel_rfl) (by kernel_rfl) (by kernel_rfl) (fun _ _ _ h=>h) (Or.inr ⟨by rfl,rfl⟩) hHeld ?_
    try simp only[pu]
    refine' wpAnyH_take (i:=12) (oi:=⟨some 34,_,_,_,_,_⟩) (v:=undef) rfl (by kernel_rfl) (by kernel_rfl) (by kernel_rfl) (fun _ _ _ h=>h) (Or.inr ⟨by rfl,rfl⟩) hHeld ?_
    try simp only[pu]
    refine' wpAnyH_take (i:=13) (oi:=⟨some 35,_,_,_,_,_⟩) (v:=undef) rfl (by kernel_rfl) (by kernel_rfl) (by kernel_rfl) (fun _ _ _ h=>h) (Or.inr ⟨by rfl,rfl⟩) hHeld ?_
    try simp only[pu]
    refine' wpAnyH_take (i:=14) (oi:=⟨some 36,_,_,_,_,_⟩) (v:=undef) rfl (by kernel_rfl) (by kernel_rfl) (by kernel_rfl) (fun _ _ _ h=>h) (Or.inr ⟨by rfl,rfl⟩) hHeld ?_
    try simp only[pu]
    refine' wpAnyH_take (i:=15) (oi:=⟨some 37,_,_,_,_,_⟩) (v:=undef) rfl (by kernel_rfl) (by kernel_rfl) (by kernel_rfl) (fun _ _ _ h=>h) (Or.inr ⟨by rfl,rfl⟩) hHeld ?_
    try simp only[pu]
    refine' wpAnyH_take (i:=16) (oi:=⟨some 38,_,_,_,_,_⟩) (v:=undef) rfl (by kernel_rfl) (by kernel_rfl) (by kernel_rfl) (fun _ _ _ h=>h) (Or.inr ⟨by rfl,rfl⟩) hHeld ?_
    try simp only[pu]
    refine' wpAnyH_take (i:=17) (oi:=⟨some 39,_,_,_,_,_⟩) (v:=undef) rfl (by kernel_rfl) (by kernel_rfl) (by kernel_rfl) (fun _ _ _ h=>h) (Or.inr ⟨by rfl,rfl⟩) hHeld ?_
    try simp only[pu]
    refine' wpAnyH_take (i:=18) (oi:=⟨some 40,_,_,_,_,_⟩) (v:=_) rfl (by kernel_rfl) (by kernel_rfl) (by kernel_rfl) (fun _ _ _ h=>h) (Or.inl ⟨by rfl,?_⟩) hHeld ?_
    rotate_left
    ·(intro w' ab;(try dsimp only at ab);go_simp;(try with_reducible rfl))
    try simp only[pu]
    refine' wpAnyH_take (i:=19) (oi:=⟨some 41,_,_,_,_,_⟩) (v:=_) rfl (by kernel_rfl) (by kernel_rfl) (by kernel_rfl) (fun _ _ _ h=>h) (Or.inl ⟨by rfl,?_⟩) hHeld ?_
    rotate_left
    ·(intro w' ab;(try dsimp only at ab);go_simp;(try with_reducible rfl))
    try simp only[pu]
    refine' wpAnyH_take (i:=20) (oi:=⟨some 42,_,_,_,_,_⟩) (v:=undef) rfl (by kernel_rfl) (by kernel_rfl) (by kernel_rfl) (fun _ _ _ h=>h) (Or.inr ⟨by rfl,rfl⟩) hHeld ?_
    try simp only[pu]
    refine' wpAnyH_take (i:=21) (oi:=⟨some 43,_,_,_,_,_⟩) (v:=undef) rfl (by kernel_rfl) (by kernel_rfl) (by kernel_rfl) (fun _ _ _ h=>h) (Or.inr ⟨by rfl,rfl⟩) hHeld ?_
    try simp only[pu]
    refine' wpAnyH_take (i:=22) (oi:=⟨some 44,_,_,_,_,_⟩) (v:=undef) rfl (by kernel_rfl) (by kernel_rfl) (by kernel_rfl) (fun _ _ _ h=>h) (Or.inr ⟨by rfl,rfl⟩) hHeld ?_
    try simp only[pu]
    refine' wpAnyH_take (i:=23) (oi:=⟨some 45,_,_,_,_,_⟩) (v:=undef) rfl (by kernel_rfl) (by kernel_rfl) (by kernel_rfl) (fun _ _ _ h=>h) (Or.inr ⟨by rfl,rfl⟩) hHeld ?_
    try simp only[pu]
    refine' wpAnyH_take (i:=24) (oi:=⟨some 46,_,_,_,_,_⟩) (v:=undef) rfl (by kernel_rfl) (by kernel_rfl) (by kernel_rfl) (fun _ _ _ h=>h) (Or.inr ⟨by rfl,rfl⟩) hHeld ?_
    try simp only[pu]
    refine' wpAnyH_take (i:=25) (oi:=⟨some 47,_,_,_,_,_⟩) (v:=_) rfl (by kernel_rfl) (by kernel_rfl) (by kernel_rfl) (fun _ _ _ h=>h) (Or.inl ⟨by rfl,?_⟩) hHeld ?_
    rotate_left
    ·(intro w' ab;(try dsimp only at ab);go_simp;(try with_reducible rfl))
    try simp only[pu]
    refine wpAnyH_done (by kernel_rfl) ?_ _
    have gH:=J (aN.o.trans hHeld.1);clear hHeld ei;go_wp2_with fail;go_ret;exact⟨false,rfl,⟨(fun h=>by cases h),fun h=>absurd h ao.o⟩,gH.o⟩
   have lL:=J (fun W hx=>iO.o W hx z);rcases fX.o with rfl|⟨p,rfl,hp,hpc,dV,dM⟩
   ·have mQ:decide (((0:Nat):Int)>0)=false:=by decide
    by_cases hz:0<=z/\z<(ns.length:Int)
    ·have iM:=J (aP.o ul.o hz (W5.o rfl));rw[decide_eq_true hz]at lL;clear hz;have ei:Hid (∀w1 w2,(fun w':World=>Ext w7 w'/\w'.cell? ⟨nb,0,none⟩=some (.string s)/\w'.cell? ⟨nb,1,none⟩=some (.int .i64 z)) w1->Ext w1 w2->(fun w':World=>Ext w7 w'/\w'.cell? ⟨nb,0,none⟩=some (.string s)/\w'.cell? ⟨nb,1,none⟩=some (.int .i64 z)) w2):=J (fun w1 w2 h hx=>by
      obtain⟨p0,p1,p2⟩:=h;exact⟨p0.trans hx,hx.keep p1,hx.keep p2⟩)
     refine wp_region_held_drew (S:=fun w'=>Ext w7 w'/\w'.cell? ⟨nb,0,none⟩=some (.string s)/\w'.cell? ⟨nb,1,none⟩=some (.int .i64 z)) (by kernel_rfl) (by exact⟨(Ext.refl w7).drew,dD.o.1,dD.o.2⟩) (fun hHeld=> ?_);refine' wpAnyH_take (i:=0) (oi:=⟨some 22,_,_,_,_,_⟩) (v:=_) rfl (by kernel_rfl) (by kernel_rfl) (by kernel_rfl) (fun _ _ _ h=>h) (Or.inl ⟨by rfl,?_⟩) hHeld ?_
     rotate_left
     ·(intro w' ab;(try dsimp only at ab);go_simp;(try with_reducible rfl))
     try simp only[pu]
     refine' wpAnyH_take (i:=1) (oi:=⟨some 23,_,_,_,_,_⟩) (v:=_) rfl (by kernel_rfl) (by kernel_rfl) (by kernel_rfl) (fun _ _ _ h=>h) (Or.inl ⟨by rfl,?_⟩) hHeld ?_
     rotate_left
     ·(intro w' ab;(try dsimp only at ab);go_simp;(try with_reducible rfl))
     try simp only[pu]
     refine wpAnyH_ready (rs:=[2]) (by kernel_rfl) (by simp) ?_
     refine AllReadyH.cons (i:=2) rfl (fun K hK=> ?_) AllReadyH.nil;go_simp
     (go_at_call 99;refine(kZ.o _).mono ?_;rintro e w8 ⟨rfl,bS⟩)
     try go_wp2_with fail
     refine hK.out _ _ ?_ (fun hHeld=> ?_)
     ·exact ei.o _ _ hHeld bS
     clear hK K;try simp only[pu]
     refine' wpAnyH_take (i:=3) (oi:=⟨some 25,_,_,_,_,_⟩) (v:=_) rfl (by kernel_rfl) (by kernel_rfl) (by kernel_rfl) (fun _ _ _ h=>h) (Or.inl ⟨by rfl,?_⟩) hHeld ?_
     rotate_left
     ·(intro w' ab;(try dsimp only at ab);go_simp;(try with_reducible rfl))
     try simp only[pu]
     refine' wpAnyH_take (i:=4) (oi:=⟨some 26,_,_,_,_,_⟩) (v:=_) rfl (by kernel_rfl) (by kernel_rfl) (by kernel_rfl) (fun _ _ _ h=>h) (Or.inl ⟨by rfl,?_⟩) hHeld ?_
     rotate_left
     ·(intro w' ab;(try dsimp only at ab);go_simp;(try with_reducible rfl))
     try simp only[pu]
     refine' wpAnyH_take (i:=5) (oi:=⟨some 27,_,_,_,_,_⟩) (v:=_) rfl (by kernel_rfl) (by kernel_rfl) (by kernel_rfl) (fun _ _ _ h=>h) (Or.inl ⟨by rfl,?_⟩) hHeld ?_
     rotate_left
     ·(intro w' ab;(try dsimp only at ab);go_simp;(try with_reducible rfl))
     try simp only[pu]
     refine' wpAnyH_take (i:=6) (oi:=⟨some 28,_,_,_,_,_⟩) (v:=_) rfl (by kernel_rfl) (by kernel_rfl) (by kernel_rfl) (fun _ _ _ h=>h) (Or.inl ⟨by rfl,?_⟩) hHeld ?_
     rotate_left
     ·(intro w' ab;(try dsimp only at ab);go_simp;(try with_reducible rfl))
     try simp only[pu]
     refine' wpAnyH_take (i:=7) (oi:=⟨some 29,_,_,_,_,_⟩) (v:=_) rfl (by kernel_rfl) (by kernel_rfl) (by kernel_rfl) (fun _ _ _ h=>h) (Or.inl ⟨by rfl,?_⟩) hHeld ?_
     rotate_left
     ·(intro w' ab;(try dsimp only at ab);go_simp;(try with_reducible rfl))
     try simp only[pu]
     refine' wpAnyH_take (i:=8) (oi:=⟨some 30,_,_,_,_,_⟩) (v:=undef) rfl (by kernel_rfl) (by kernel_rfl) (by kernel_rfl) (fun _ _ _ h=>h) (Or.inr ⟨by rfl,rfl⟩) hHeld ?_
     try simp only[pu]
     refine' wpAnyH_take (i:=9) (oi:=⟨some 31,_,_,_,_,_⟩) (v:=undef) rfl (by kernel_rfl) (by kernel_rfl) (by kernel_rfl) (fun _ _ _ h=>h) (Or.inr ⟨by rfl,rfl⟩) hHeld ?_
     try simp only[pu]
     refine' wpAnyH_take (i:=10) (oi:=⟨some 32,_,_,_,_,_⟩) (v:=undef) rfl (by kernel_rfl) (by kernel_rfl) (by kernel_rfl) (fun _ _ _ h=>h) (Or.inr ⟨by rfl,rfl⟩) hHeld ?_
     try simp only[pu]
     refine' wpAnyH_take (i:=11) (oi:=⟨some 33,_,_,_,_,_⟩) (v:=undef) rfl (by kernel_rfl) (by kernel_rfl) (by kernel_rfl) (fun _ _ _ h=>h) (Or.inr ⟨by rfl,rfl⟩) hHeld ?_
     try simp only[pu]
     refine' wpAnyH_take (i:=12) (oi:=⟨some 34,_,_,_,_,_⟩) (v:=undef) rfl (by kernel_rfl) (by kernel_rfl) (by kernel_rfl) (fun _ _ _ h=>h) (Or.inr ⟨by rfl,rfl⟩) hHeld ?_
     try simp only[pu]
     refine' wpAnyH_take (i:=13) (oi:=⟨some 35,_,_,_,_,_⟩) (v:=undef) rfl (by kernel_rfl) (by kernel_rfl) (by kernel_rfl) (fun _ _ _ h=>h) (Or.inr ⟨by rfl,rfl⟩) hHeld ?_
     try simp only[pu]
     refine' wpAnyH_take (i:=14) (oi:=⟨some 36,_,_,_,_,_⟩) (v:=undef) rfl (by kernel_rfl) (by kernel_rfl) (by kernel_rfl) (fun _ _ _ h=>h) (Or.inr ⟨by rfl,rfl⟩) hHeld ?_
     try simp only[pu]
     refine' wpAnyH_take (i:=15) (oi:=⟨some 37,_,_,_,_,_⟩) (v:=undef) rfl (by kernel_rfl) (by kernel_rfl) (by kernel_rfl) (fun _ _ _ h=>h) (Or.inr ⟨by rfl,rfl⟩) hHeld ?_
     try simp only[pu]
     refine' wpAnyH_take (i:=16) (oi:=⟨some 38,_,_,_,_,_⟩) (v:=undef) rfl (by kernel_rfl) (by kernel_rfl) (by kernel_rfl) (fun _ _ _ h=>h) (Or.inr ⟨by rfl,rfl⟩) hHeld ?_
     try simp only[pu]
     refine' wpAnyH_take (i:=17) (oi:=⟨some 39,_,_,_,_,_⟩) (v:=_) rfl (by kernel_rfl) (by kernel_rfl) (by kernel_rfl) (fun _ _ _ h=>h) (Or.inl ⟨by rfl,?_⟩) hHeld ?_
     rotate_left
     ·(intro w' ab;(try dsimp only at ab);go_simp;(try with_reducible rfl))
     try simp only[pu]
     refine' wpAnyH_take (i:=18) (oi:=⟨some 40,_,_,_,_,_⟩) (v:=_) rfl (by kernel_rfl) (by kernel_rfl) (by kernel_rfl) (fun _ _ _ h=>h) (Or.inl ⟨by rfl,?_⟩) hHeld ?_
     rotate_left
     ·(intro w' ab;(try dsimp only at ab);go_simp;(try with_reducible rfl))
     try simp only[pu]
     refine' wpAnyH_take (i:=19) (oi:=⟨some 41,_,_,_,_,_⟩) (v:=_) rfl (by kernel_rfl) (by kernel_rfl) (by kernel_rfl) (fun _ _ _ h=>h) (Or.inl ⟨by rfl,?_⟩) hHeld ?_
     rotate_left
     ·(intro w' ab;(try dsimp only at ab);go_simp;(try with_reducible rfl))
     try simp only[pu]
     refine' wpAnyH_take (i:=20) (oi:=⟨some 42,_,_,_,_,_⟩) (v:=_) rfl (by kernel_rfl) (by kernel_rfl) (by kernel_rfl) (fun _ _ _ h=>h) (Or.inl ⟨by rfl,?_⟩) hHeld ?_
     rotate_left
     ·(intro w' ab;(try dsimp only at ab);go_simp;(try with_reducible rfl))
     try simp only[pu]
     refine' wpAnyH_take (i:=21) (oi:=⟨some 43,_,_,_,_,_⟩) (v:=_) rfl (by kernel_rfl) (by kernel_rfl) (by kernel_rfl) (fun _ _ _ h=>h) (Or.inl ⟨by rfl,?_⟩) hHeld ?_
     rotate_left
     ·(intro w' ab;(try dsimp only at ab);go_simp;(try with_reducible rfl))
     try simp only[pu]
     refine' wpAnyH_take (i:=22) (oi:=⟨some 44,_,_,_,_,_⟩) (v:=_) rfl (by kernel_rfl) (by kernel_rfl) (by kernel_rfl) (fun _ _ _ h=>h) (Or.inl ⟨by rfl,?_⟩) hHeld ?_
     rotate_left
     ·(intro w' ab;(try dsimp only at ab);go_simp;(try with_reducible rfl))
     try simp only[pu]
     refine wpAnyH_ready (rs:=[23]) (by kernel_rfl) (by simp) ?_
     refine AllReadyH.cons (i:=23) rfl (fun K hK=> ?_) AllReadyH.nil;go_simp
     (go_at_call 89;refine(lL.o _ (aN.o.trans hHeld.1)).mono ?_;rintro e dj ⟨rfl,dn⟩)
     try go_wp2_with fail
     refine hK.out _ _ ?_ (fun hHeld=> ?_)
     ·exact ei.o _ _ hHeld dn
     clear hK K;try simp only[pu]
     refine' wpAnyH_take (i:=24) (oi:=⟨some 46,_,_,_,_,_⟩) (v:=_) rfl (by kernel_rfl) (by kernel_rfl) (by kernel_rfl) (fun _ _ _ h=>h) (Or.inl ⟨by rfl,?_⟩) hHeld ?_
     rotate_left
     ·(intro w' ab;(try dsimp only at ab);go_simp;(try with_reducible rfl))
     try simp only[pu]
     refine' wpAnyH_take (i:=25) (oi:=⟨some 47,_,_,_,_,_⟩) (v:=_) rfl (by kernel_rfl) (by kernel_rfl) (by kernel_rfl) (fun _ _ _ h=>h) (Or.inl ⟨by rfl,?_⟩) hHeld ?_
     rotate_left
     ·(intro w' ab;(try dsimp only at ab);go_simp;(try with_reducible rfl))
     try simp only[pu]
     refine wpAnyH_done (by kernel_rfl) ?_ _
     have gH:=J (aN.o.trans hHeld.1);clear hHeld ei;go_wp2_with fail;go_roundw
     case rel=>exact⟨0+1,by omega,by go_num,iM.o,gH.o⟩
     case measure=>simp[intOf]<;>omega
    ·have ao:=J (cP.o hz);rw[decide_eq_false hz]at lL;clear hz;have ei:Hid (∀w1 w2,(fun w':World=>Ext w7 w'/\w'.cell? ⟨nb,0,none⟩=some (.string s)/\w'.cell? ⟨nb,1,none⟩=some (.int .i64 z)) w1->Ext w1 w2->(fun w':World=>Ext w7 w'/\w'.cell? ⟨nb,0,none⟩=some (.string s)/\w'.cell? ⟨nb,1,none⟩=some (.int .i64 z)) w2):=J (fun w1 w2 h hx=>by
      obtain⟨p0,p1,p2⟩:=h;exact⟨p0.trans hx,hx.keep p1,hx.keep p2⟩)
     refine wp_region_held_drew (S:=fun w'=>Ext w7 w'/\w'.cell? ⟨nb,0,none⟩=some (.string s)/\w'.cell? ⟨nb,1,none⟩=some (.int .i64 z)) (by kernel_rfl) (by exact⟨(Ext.refl w7).drew,dD.o.1,dD.o.2⟩) (fun hHeld=> ?_);refine' wpAnyH_take (i:=0) (oi:=⟨some 22,_,_,_,_,_⟩) (v:=_) rfl (by kernel_rfl) (by kernel_rfl) (by kernel_rfl) (fun _ _ _ h=>h) (Or.inl ⟨by rfl,?_⟩) hHeld ?_
     rotate_left
     ·(intro w' ab;(try dsimp only at ab);go_simp;(try with_reducible rfl))
     try simp only[pu]
     refine' wpAnyH_take (i:=1) (oi:=⟨some 23,_,_,_,_,_⟩) (v:=_) rfl (by kernel_rfl) (by kernel_rfl) (by kernel_rfl) (fun _ _ _ h=>h) (Or.inl ⟨by rfl,?_⟩) hHeld ?_
     rotate_left
     ·(intro w' ab;(try dsimp only at ab);go_simp;(try with_reducible rfl))
     try simp only[pu]
     refine wpAnyH_ready (rs:=[2]) (by kernel_rfl) (by simp) ?_
     refine AllReadyH.cons (i:=2) rfl (fun K hK=> ?_) AllReadyH.nil;go_simp
     (go_at_call 99;refine(kZ.o _).mono ?_;rintro e w8 ⟨rfl,bS⟩)
     try go_wp2_with fail
     refine hK.out _ _ ?_ (fun hHeld=> ?_)
     ·exact ei.o _ _ hHeld bS
     clear hK K;try simp only[pu]
     refine' wpAnyH_take (i:=3) (oi:=⟨some 25,_,_,_,_,_⟩) (v:=_) rfl (by kernel_rfl) (by kernel_rfl) (by kernel_rfl) (fun _ _ _ h=>h) (Or.inl ⟨by rfl,?_⟩) hHeld ?_
     rotate_left
     ·(intro w' ab;(try dsimp only at ab);go_simp;(try with_reducible rfl))
     try simp only[pu]
     refine' wpAnyH_take (i:=4) (oi:=⟨some 26,_,_,_,_,_⟩) (v:=_) rfl (by kernel_rfl) (by kernel_rfl) (by kernel_rfl) (fun _ _ _ h=>h) (Or.inl ⟨by rfl,?_⟩) hHeld ?_
     rotate_left
     ·(intro w' ab;(try dsimp only at ab);go_simp;(try with_reducible rfl))
     try simp only[pu]
     refine' wpAnyH_take (i:=5) (oi:=⟨some 27,_,_,_,_,_⟩) (v:=_) rfl (by kernel_rfl) (by kernel_rfl) (by kernel_rfl) (fun _ _ _ h=>h) (Or.inl ⟨by rfl,?_⟩) hHeld ?_
     rotate_left
     ·(intro w' ab;(try dsimp only at ab);go_simp;(try with_reducible rfl))
     try simp only[pu]
     refine' wpAnyH_take (i:=6) (oi:=⟨some 28,_,_,_,_,_⟩) (v:=_) rfl (by kernel_rfl) (by kernel_rfl) (by kernel_rfl) (fun _ _ _ h=>h) (Or.inl ⟨by rfl,?_⟩) hHeld ?_
     rotate_left
     ·(intro w' ab;(try dsimp only at ab);go_simp;(try with_reducible rfl))
     try simp only[pu]
     refine' wpAnyH_take (i:=7) (oi:=⟨some 29,_,_,_,_,_⟩) (v:=_) rfl (by kernel_rfl) (by kernel_rfl) (by kernel_rfl) (fun _ _ _ h=>h) (Or.inl ⟨by rfl,?_⟩) hHeld ?_
     rotate_left
     ·(intro w' ab;(try dsimp only at ab);go_simp;(try with_reducible rfl))
     try simp only[pu]
     refine' wpAnyH_take (i:=8) (oi:=⟨some 30,_,_,_,_,_⟩) (v:=undef) rfl (by kernel_rfl) (by kernel_rfl) (by kernel_rfl) (fun _ _ _ h=>h) (Or.inr ⟨by rfl,rfl⟩) hHeld ?_
     try simp only[pu]
     refine' wpAnyH_take (i:=9) (oi:=⟨some 31,_,_,_,_,_⟩) (v:=undef) rfl (by kernel_rfl) (by kernel_rfl) (by kernel_rfl) (fun _ _ _ h=>h) (Or.inr ⟨by rfl,rfl⟩) hHeld ?_
     try simp only[pu]
     refine' wpAnyH_take (i:=10) (oi:=⟨some 32,_,_,_,_,_⟩) (v:=undef) rfl (by kernel_rfl) (by kernel_rfl) (by kernel_rfl) (fun _ _ _ h=>h) (Or.inr ⟨by rfl,rfl⟩) hHeld ?_
     try simp only[pu]
     refine' wpAnyH_take (i:=11) (oi:=⟨some 33,_,_,_,_,_⟩) (v:=undef) rfl (by kernel_rfl) (by kernel_rfl) (by kernel_rfl) (fun _ _ _ h=>h) (Or.inr ⟨by rfl,rfl⟩) hHeld ?_
     try simp only[pu]
     refine' wpAnyH_take (i:=12) (oi:=⟨some 34,_,_,_,_,_⟩) (v:=undef) rfl (by kernel_rfl) (by kernel_rfl) (by kernel_rfl) (fun _ _ _ h=>h) (Or.inr ⟨by rfl,rfl⟩) hHeld ?_
     try simp only[pu]
     refine' wpAnyH_take (i:=13) (oi:=⟨some 35,_,_,_,_,_⟩) (v:=undef) rfl (by kernel_rfl) (by kernel_rfl) (by kernel_rfl) (fun _ _ _ h=>h) (Or.inr ⟨by rfl,rfl⟩) hHeld ?_
     try simp only[pu]
     refine' wpAnyH_take (i:=14) (oi:=⟨some 36,_,_,_,_,_⟩) (v:=undef) rfl (by kernel_rfl) (by kernel_rfl) (by kernel_rfl) (fun _ _ _ h=>h) (Or.inr ⟨by rfl,rfl⟩) hHeld ?_
     try simp only[pu]
     refine' wpAnyH_take (i:=15) (oi:=⟨some 37,_,_,_,_,_⟩) (v:=undef) rfl (by kernel_rfl) (by kernel_rfl) (by kernel_rfl) (fun _ _ _ h=>h) (Or.inr ⟨by rfl,rfl⟩) hHeld ?_
     try simp only[pu]
     refine' wpAnyH_take (i:=16) (oi:=⟨some 38,_,_,_,_,_⟩) (v:=undef) rfl (by kernel_rfl) (by kernel_rfl) (by kernel_rfl) (fun _ _ _ h=>h) (Or.inr ⟨by rfl,rfl⟩) hHeld ?_
     try simp only[pu]
     refine' wpAnyH_take (i:=17) (oi:=⟨some 39,_,_,_,_,_⟩) (v:=_) rfl (by kernel_rfl) (by kernel_rfl) (by kernel_rfl) (fun _ _ _ h=>h) (Or.inl ⟨by rfl,?_⟩) hHeld ?_
     rotate_left
     ·(intro w' ab;(try dsimp only at ab);go_simp;(try with_reducible rfl))
     try simp only[pu]
     refine' wpAnyH_take (i:=18) (oi:=⟨some 40,_,_,_,_,_⟩) (v:=_) rfl (by kernel_rfl) (by kernel_rfl) (by kernel_rfl) (fun _ _ _ h=>h) (Or.inl ⟨by rfl,?_⟩) hHeld ?_
     rotate_left
     ·(intro w' ab;(try dsimp only at ab);go_simp;(try with_reducible rfl))
     try simp only[pu]
     refine' wpAnyH_take (i:=19) (oi:=⟨some 41,_,_,_,_,_⟩) (v:=_) rfl (by kernel_rfl) (by kernel_rfl) (by kernel_rfl) (fun _ _ _ h=>h) (Or.inl ⟨by rfl,?_⟩) hHeld ?_
     rotate_left
     ·(intro w' ab;(try dsimp only at ab);go_simp;(try with_reducible rfl))
     try simp only[pu]
     refine' wpAnyH_take (i:=20) (oi:=⟨some 42,_,_,_,_,_⟩) (v:=_) rfl (by kernel_rfl) (by kernel_rfl) (by kernel_rfl) (fun _ _ _ h=>h) (Or.inl ⟨by rfl,?_⟩) hHeld ?_
     rotate_left
     ·(intro w' ab;(try dsimp only at ab);go_simp;(try with_reducible rfl))
     try simp only[pu]
     refine' wpAnyH_take (i:=21) (oi:=⟨some 43,_,_,_,_,_⟩) (v:=_) rfl (by kernel_rfl) (by kernel_rfl) (by kernel_rfl) (fun _ _ _ h=>h) (Or.inl ⟨by rfl,?_⟩) hHeld ?_
     rotate_left
     ·(intro w' ab;(try dsimp only at ab);go_simp;(try with_reducible rfl))
     try simp only[pu]
     refine' wpAnyH_take (i:=22) (oi:=⟨some 44,_,_,_,_,_⟩) (v:=_) rfl (by kernel_rfl) (by kernel_rfl) (by kernel_rfl) (fun _ _ _ h=>h) (Or.inl ⟨by rfl,?_⟩) hHeld ?_
     rotate_left
     ·(intro w' ab;(try dsimp only at ab);go_simp;(try with_reducible rfl))
     try simp only[pu]
     refine wpAnyH_ready (rs:=[23]) (by kernel_rfl) (by simp) ?_
     refine AllReadyH.cons (i:=23) rfl (fun K hK=> ?_) AllReadyH.nil;go_simp
     (go_at_call 89;refine(lL.o _ (aN.o.trans hHeld.1)).mono ?_;rintro e dj ⟨rfl,dn⟩)
     try go_wp2_with fail
     refine hK.out _ _ ?_ (fun hHeld=> ?_)
     ·exact ei.o _ _ hHeld dn
     clear hK K;try simp only[pu]
     refine' wpAnyH_take (i:=24) (oi:=⟨some 46,_,_,_,_,_⟩) (v:=_) rfl (by kernel_rfl) (by kernel_rfl) (by kernel_rfl) (fun _ _ _ h=>h) (Or.inl ⟨by rfl,?_⟩) hHeld ?_
     rotate_left
     ·(intro w' ab;(try dsimp only at ab);go_simp;(try with_reducible rfl))
     try simp only[pu]
     refine' wpAnyH_take (i:=25) (oi:=⟨some 47,_,_,_,_,_⟩) (v:=_) rfl (by kernel_rfl) (by kernel_rfl) (by kernel_rfl) (fun _ _ _ h=>h) (Or.inl ⟨by rfl,?_⟩) hHeld ?_
     rotate_left
     ·(intro w' ab;(try dsimp only at ab);go_simp;(try with_reducible rfl))
     try simp only[pu]
     refine wpAnyH_done (by kernel_rfl) ?_ _
     have gH:=J (aN.o.trans hHeld.1);clear hHeld ei;go_wp2_with fail;go_ret;exact⟨false,rfl,⟨(fun h=>by cases h),fun h=>absurd h ao.o⟩,gH.o⟩
   have kF:=J dV;have lF:=J dM;clear dV dM fX;generalize env[p].1=tp at *;obtain⟨sp,mG⟩:∃sp:ByteArray,str tp= .string sp:=⟨_,rfl⟩;rw[mG]at hpc;have wP:=MX mG i5.o;have vk:=J hpc;have UY:IntKind.i64.wrap (((p+1:Nat):Int)-1)=(p:Int):=by rw[IntWalk.i64_in _ (by omega)];omega
   have UX:IntKind.i64.wrap ((p:Int)+1-1)=(p:Int):=by rw[IntWalk.i64_in _ (by omega)];omega
   have UW:IntKind.i64.wrap (p:Int)=(p:Int):=IntWalk.i64_in _ (by omega);have hp0:(0:Int)<=(p:Int):=by omega
   have gW:(p:Int)<(n:Int):=by omega
   have jw:decide (((p+1:Nat):Int)>0)=true:=decide_eq_true (by omega);have VC:decide ((p:Int)+1>0)=true:=decide_eq_true (by omega);clear mG hpc hp;by_cases hl:tp<t;rotate_left
   ·have ao:=J (lF.o hl);rw[decide_eq_false hl]at wP;clear hl;have ei:Hid (∀w1 w2,(fun w':World=>Ext w7 w'/\w'.cell? ⟨nb,0,none⟩=some (.string s)/\w'.cell? ⟨nb,1,none⟩=some (.int .i64 z)/\w'.cell? ⟨gb,o+p*2,none⟩=some (.string sp)) w1->Ext w1 w2->(fun w':World=>Ext w7 w'/\w'.cell? ⟨nb,0,none⟩=some (.string s)/\w'.cell? ⟨nb,1,none⟩=some (.int .i64 z)/\w'.cell? ⟨gb,o+p*2,none⟩=some (.string sp)) w2):=J (fun w1 w2 h hx=>by
     obtain⟨p0,p1,p2,p3⟩:=h;exact⟨p0.trans hx,hx.keep p1,hx.keep p2,hx.keep p3⟩)
    refine wp_region_held_drew (S:=fun w'=>Ext w7 w'/\w'.cell? ⟨nb,0,none⟩=some (.string s)/\w'.cell? ⟨nb,1,none⟩=some (.int .i64 z)/\w'.cell? ⟨gb,o+p*2,none⟩=some (.string sp)) (by kernel_rfl) (by exact⟨(Ext.refl w7).drew,dD.o.1,dD.o.2,aN.o.keep vk.o⟩) (fun hHeld=> ?_);refine' wpAnyH_take (i:=0) (oi:=⟨some 22,_,_,_,_,_⟩) (v:=_) rfl (by kernel_rfl) (by kernel_rfl) (by kernel_rfl) (fun _ _ _ h=>h) (Or.inl ⟨by rfl,?_⟩) hHeld ?_
    rotate_left
    ·(intro w' ab;(try dsimp only at ab);go_simp;(try with_reducible rfl))
    try simp only[pu]
    refine' wpAnyH_take (i:=1) (oi:=⟨some 23,_,_,_,_,_⟩) (v:=_) rfl (by kernel_rfl) (by kernel_rfl) (by kernel_rfl) (fun _ _ _ h=>h) (Or.inl ⟨by rfl,?_⟩) hHeld ?_
    rotate_left
    ·(intro w' ab;(try dsimp only at ab);go_simp;(try with_reducible rfl))
    try simp only[pu]
    refine wpAnyH_ready (rs:=[2]) (by kernel_rfl) (by simp) ?_
    refine AllReadyH.cons (i:=2) rfl (fun K hK=> ?_) AllReadyH.nil;go_simp
    (go_at_call 99;refine(kZ.o _).mono ?_;rintro e w8 ⟨rfl,bS⟩)
    try go_wp2_with fail
    refine hK.out _ _ ?_ (fun hHeld=> ?_)
    ·exact ei.o _ _ hHeld bS
    clear hK K;try simp only[pu]
    refine' wpAnyH_take (i:=3) (oi:=⟨some 25,_,_,_,_,_⟩) (v:=_) rfl (by kernel_rfl) (by kernel_rfl) (by kernel_rfl) (fun _ _ _ h=>h) (Or.inl ⟨by rfl,?_⟩) hHeld ?_
    rotate_left
    ·(intro w' ab;(try dsimp only at ab);go_simp;(try with_reducible rfl))
    try simp only[pu]
    refine' wpAnyH_take (i:=4) (oi:=⟨some 26,_,_,_,_,_⟩) (v:=_) rfl (by kernel_rfl) (by kernel_rfl) (by kernel_rfl) (fun _ _ _ h=>h) (Or.inl ⟨by rfl,?_⟩) hHeld ?_
    rotate_left
    ·(intro w' ab;(try dsimp only at ab);go_simp;(try with_reducible rfl))
    try simp only[pu]
    refine' wpAnyH_take (i:=5) (oi:=⟨some 27,_,_,_,_,_⟩) (v:=_) rfl (by kernel_rfl) (by kernel_rfl) (by kernel_rfl) (fun _ _ _ h=>h) (Or.inl ⟨by rfl,?_⟩) hHeld ?_
    rotate_left
    ·(intro w' ab;(try dsimp only at ab);go_simp;(try with_reducible rfl))
    try simp only[pu]
    refine' wpAnyH_take (i:=6) (oi:=⟨some 28,_,_,_,_,_⟩) (v:=_) rfl (by kernel_rfl) (by kernel_rfl) (by kernel_rfl) (fun _ _ _ h=>h) (Or.inl ⟨by rfl,?_⟩) hHeld ?_
    rotate_left
    ·(intro w' ab;(try dsimp only at ab);go_simp;(try with_reducible rfl))
    try simp only[pu]
    refine' wpAnyH_take (i:=7) (oi:=⟨some 29,_,_,_,_,_⟩) (v:=_) rfl (by kernel_rfl) (by kernel_rfl) (by kernel_rfl) (fun _ _ _ h=>h) (Or.inl ⟨by rfl,?_⟩) hHeld ?_
    rotate_left
    ·(intro w' ab;(try dsimp only at ab);go_simp;(try with_reducible rfl))
    try simp only[pu]
    refine' wpAnyH_take (i:=8) (oi:=⟨some 30,_,_,_,_,_⟩) (v:=_) rfl (by kernel_rfl) (by kernel_rfl) (by kernel_rfl) (fun _ _ _ h=>h) (Or.inl ⟨by rfl,?_⟩) hHeld ?_
    rotate_left
    ·(intro w' ab;(try dsimp only at ab);go_simp;(try with_reducible rfl))
    try simp only[pu]
    refine' wpAnyH_take (i:=9) (oi:=⟨some 31,_,_,_,_,_⟩) (v:=_) rfl (by kernel_rfl) (by kernel_rfl) (by kernel_rfl) (fun _ _ _ h=>h) (Or.inl ⟨by rfl,?_⟩) hHeld ?_
    rotate_left
    ·(intro w' ab;(try dsimp only at ab);go_simp;(try with_reducible rfl))
    try simp only[pu]
    refine' wpAnyH_take (i:=10) (oi:=⟨some 32,_,_,_,_,_⟩) (v:=_) rfl (by kernel_rfl) (by kernel_rfl) (by kernel_rfl) (fun _ _ _ h=>h) (Or.inl ⟨by rfl,?_⟩) hHeld ?_
    rotate_left
    ·(intro w' ab;(try dsimp only at ab);go_simp;(try with_reducible rfl))
    try simp only[pu]
    refine' wpAnyH_take (i:=11) (oi:=⟨some 33,_,_,_,_,_⟩) (v:=_) rfl (by kernel_rfl) (by kernel_rfl) (by kernel_rfl) (fun _ _ _ h=>h) (Or.inl ⟨by rfl,?_⟩) hHeld ?_
    rotate_left
    ·(intro w' ab;(try dsimp only at ab);go_simp;(try with_reducible rfl))
    try simp only[pu]
    refine' wpAnyH_take (i:=12) (oi:=⟨some 34,_,_,_,_,_⟩) (v:=_) rfl (by kernel_rfl) (by kernel_rfl) (by kernel_rfl) (fun _ _ _ h=>h) (Or.inl ⟨by rfl,?_⟩) hHeld ?_
    rotate_left
    ·(intro w' ab;(try dsimp only at ab);go_simp;(try with_reducible rfl))
    try simp only[pu]
    refine' wpAnyH_take (i:=13) (oi:=⟨some 35,_,_,_,_,_⟩) (v:=_) rfl (by kernel_rfl) (by kernel_rfl) (by kernel_rfl) (fun _ _ _ h=>h) (Or.inl ⟨by rfl,?_⟩) hHeld ?_
    rotate_left
    ·(intro w' ab;(try dsimp only at ab);go_simp;(try with_reducible rfl))
    try simp only[pu]
    refine' wpAnyH_take (i:=14) (oi:=⟨some 36,_,_,_,_,_⟩) (v:=_) rfl (by kernel_rfl) (by kernel_rfl) (by kernel_rfl) (fun _ _ _ h=>h) (Or.inl ⟨by rfl,?_⟩) hHeld ?_
    rotate_left
    ·(intro w' ab;(try dsimp only at ab);go_simp;(try with_reducible rfl))
    try simp only[pu]
    refine' wpAnyH_take (i:=15) (oi:=⟨some 37,_,_,_,_,_⟩) (v:=_) rfl (by kernel_rfl) (by kernel_rfl) (by kernel_rfl) (fun _ _ _ h=>h) (Or.inl ⟨by rfl,?_⟩) hHeld ?_
    rotate_left
    ·(intro w' ab;(try dsimp only at ab);go_simp;(try with_reducible rfl))
    try simp only[pu]
    refine' wpAnyH_take (i:=16) (oi:=⟨some 38,_,_,_,_,_⟩) (v:=_) rfl (by kernel_rfl) (by kernel_rfl) (by kernel_rfl) (fun _ _ _ h=>h) (Or.inl ⟨by rfl,?_⟩) hHeld ?_
    rotate_left
    ·(intro w' ab;(try dsimp only at ab);go_simp;(try with_reducible rfl))
    try simp only[pu]
    refine' wpAnyH_take (i:=17) (oi:=⟨some 39,_,_,_,_,_⟩) (v:=_) rfl (by kernel_rfl) (by kernel_rfl) (by kernel_rfl) (fun _ _ _ h=>h) (Or.inl ⟨by rfl,?_⟩) hHeld ?_
    rotate_left
    ·(intro w' ab;(try dsimp only at ab);go_simp;(try with_reducible rfl))
    try simp only[pu]
    refine' wpAnyH_take (i:=18) (oi:=⟨some 40,_,_,_,_,_⟩) (v:=_) rfl (by kernel_rfl) (by kernel_rfl) (by kernel_rfl) (fun _ _ _ h=>h) (Or.inl ⟨by rfl,?_⟩) hHeld ?_
    rotate_left
    ·(intro w' ab;(try dsimp only at ab);go_simp;(try with_reducible rfl))
    try simp only[pu]
    refine' wpAnyH_take (i:=19) (oi:=⟨some 41,_,_,_,_,_⟩) (v:=_) rfl (by kernel_rfl) (by kernel_rfl) (by kernel_rfl) (fun _ _ _ h=>h) (Or.inl ⟨by rfl,?_⟩) hHeld ?_
    rotate_left
    ·(intro w' ab;(try dsimp only at ab);go_simp;(try with_reducible rfl))
    try simp only[pu]
    refine' wpAnyH_take (i:=20) (oi:=⟨some 42,_,_,_,_,_⟩) (v:=undef) rfl (by kernel_rfl) (by kernel_rfl) (by kernel_rfl) (fun _ _ _ h=>h) (Or.inr ⟨by rfl,rfl⟩) hHeld ?_
    try simp only[pu]
    refine' wpAnyH_take (i:=21) (oi:=⟨some 43,_,_,_,_,_⟩) (v:=undef) rfl (by kernel_rfl) (by kernel_rfl) (by kernel_rfl) (fun _ _ _ h=>h) (Or.inr ⟨by rfl,rfl⟩) hHeld ?_
    try simp only[pu]
    refine' wpAnyH_take (i:=22) (oi:=⟨some 44,_,_,_,_,_⟩) (v:=undef) rfl (by kernel_rfl) (by kernel_rfl) (by kernel_rfl) (fun _ _ _ h=>h) (Or.inr ⟨by rfl,rfl⟩) hHeld ?_
    try simp only[pu]
    refine' wpAnyH_take (i:=23) (oi:=⟨some 45,_,_,_,_,_⟩) (v:=undef) rfl (by kernel_rfl) (by kernel_rfl) (by kernel_rfl) (fun _ _ _ h=>h) (Or.inr ⟨by rfl,rfl⟩) hHeld ?_
    try simp only[pu]
    refine' wpAnyH_take (i:=24) (oi:=⟨some 46,_,_,_,_,_⟩) (v:=undef) rfl (by kernel_rfl) (by kernel_rfl) (by kernel_rfl) (fun _ _ _ h=>h) (Or.inr ⟨by rfl,rfl⟩) hHeld ?_
    try simp only[pu]
    refine' wpAnyH_take (i:=25) (oi:=⟨some 47,_,_,_,_,_⟩) (v:=_) rfl (by kernel_rfl) (by kernel_rfl) (by kernel_rfl) (fun _ _ _ h=>h) (Or.inl ⟨by rfl,?_⟩) hHeld ?_
    rotate_left
    ·(intro w' ab;(try dsimp only at ab);go_simp;(try with_reducible rfl))
    try simp only[pu]
    refine wpAnyH_done (by kernel_rfl) ?_ _
    have gH:=J (aN.o.trans hHeld.1);clear hHeld ei;go_wp2_with fail;go_ret;exact⟨false,rfl,⟨(fun h=>by cases h),fun h=>absurd h ao.o⟩,gH.o⟩
   rw[decide_eq_true hl]at wP;by_cases hz:0<=z/\z<(ns.length:Int)
   ·have iM:=J (aP.o ul.o hz (kF.o hl));rw[decide_eq_true hz]at lL;clear hz hl;have ei:Hid (∀w1 w2,(fun w':World=>Ext w7 w'/\w'.cell? ⟨nb,0,none⟩=some (.string s)/\w'.cell? ⟨nb,1,none⟩=some (.int .i64 z)/\w'.cell? ⟨gb,o+p*2,none⟩=some (.string sp)) w1->Ext w1 w2->(fun w':World=>Ext w7 w'/\w'.cell? ⟨nb,0,none⟩=some (.string s)/\w'.cell? ⟨nb,1,none⟩=some (.int .i64 z)/\w'.cell? ⟨gb,o+p*2,none⟩=some (.string sp)) w2):=J (fun w1 w2 h hx=>by
     obtain⟨p0,p1,p2,p3⟩:=h;exact⟨p0.trans hx,hx.keep p1,hx.keep p2,hx.keep p3⟩)
    refine wp_region_held_drew (S:=fun w'=>Ext w7 w'/\w'.cell? ⟨nb,0,none⟩=some (.string s)/\w'.cell? ⟨nb,1,none⟩=some (.int .i64 z)/\w'.cell? ⟨gb,o+p*2,none⟩=some (.string sp)) (by kernel_rfl) (by exact⟨(Ext.refl w7).drew,dD.o.1,dD.o.2,aN.o.keep vk.o⟩) (fun hHeld=> ?_);refine' wpAnyH_take (i:=0) (oi:=⟨some 22,_,_,_,_,_⟩) (v:=_) rfl (by kernel_rfl) (by kernel_rfl) (by kernel_rfl) (fun _ _ _ h=>h) (Or.inl ⟨by rfl,?_⟩) hHeld ?_
    rotate_left
    ·(intro w' ab;(try dsimp only at ab);go_simp;(try with_reducible rfl))
    try simp only[pu]
    refine' wpAnyH_take (i:=1) (oi:=⟨some 23,_,_,_,_,_⟩) (v:=_) rfl (by kernel_rfl) (by kernel_rfl) (by kernel_rfl) (fun _ _ _ h=>h) (Or.inl ⟨by rfl,?_⟩) hHeld ?_
    rotate_left
    ·(intro w' ab;(try dsimp only at ab);go_simp;(try with_reducible rfl))
    try simp only[pu]
    refine wpAnyH_ready (rs:=[2]) (by kernel_rfl) (by simp) ?_
    refine AllReadyH.cons (i:=2) rfl (fun K hK=> ?_) AllReadyH.nil;go_simp
    (go_at_call 99;refine(kZ.o _).mono ?_;rintro e w8 ⟨rfl,bS⟩)
    try go_wp2_with fail
    refine hK.out _ _ ?_ (fun hHeld=> ?_)
    ·exact ei.o _ _ hHeld bS
    clear hK K;try simp only[pu]
    refine' wpAnyH_take (i:=3) (oi:=⟨some 25,_,_,_,_,_⟩) (v:=_) rfl (by kernel_rfl) (by kernel_rfl) (by kernel_rfl) (fun _ _ _ h=>h) (Or.inl ⟨by rfl,?_⟩) hHeld ?_
    rotate_left
    ·(intro w' ab;(try dsimp only at ab);go_simp;(try with_reducible rfl))
    try simp only[pu]
    refine' wpAnyH_take (i:=4) (oi:=⟨some 26,_,_,_,_,_⟩) (v:=_) rfl (by kernel_rfl) (by kernel_rfl) (by kernel_rfl) (fun _ _ _ h=>h) (Or.inl ⟨by rfl,?_⟩) hHeld ?_
    rotate_left
    ·(intro w' ab;(try dsimp only at ab);go_simp;(try with_reducible rfl))
    try simp only[pu]
    refine' wpAnyH_take (i:=5) (oi:=⟨some 27,_,_,_,_,_⟩) (v:=_) rfl (by kernel_rfl) (by kernel_rfl) (by kernel_rfl) (fun _ _ _ h=>h) (Or.inl ⟨by rfl,?_⟩) hHeld ?_
    rotate_left
    ·(intro w' ab;(try dsimp only at ab);go_simp;(try with_reducible rfl))
    try simp only[pu]
    refine' wpAnyH_take (i:=6) (oi:=⟨some 28,_,_,_,_,_⟩) (v:=_) rfl (by kernel_rfl) (by kernel_rfl) (by kernel_rfl) (fun _ _ _ h=>h) (Or.inl ⟨by rfl,?_⟩) hHeld ?_
    rotate_left
    ·(intro w' ab;(try dsimp only at ab);go_simp;(try with_reducible rfl))
    try simp only[pu]
    refine' wpAnyH_take (i:=7) (oi:=⟨some 29,_,_,_,_,_⟩) (v:=_) rfl (by kernel_rfl) (by kernel_rfl) (by kernel_rfl) (fun _ _ _ h=>h) (Or.inl ⟨by rfl,?_⟩) hHeld ?_
    rotate_left
    ·(intro w' ab;(try dsimp only at ab);go_simp;(try with_reducible rfl))
    try simp only[pu]
    refine' wpAnyH_take (i:=8) (oi:=⟨some 30,_,_,_,_,_⟩) (v:=_) rfl (by kernel_rfl) (by kernel_rfl) (by kernel_rfl) (fun _ _ _ h=>h) (Or.inl ⟨by rfl,?_⟩) hHeld ?_
    rotate_left
    ·(intro w' ab;(try dsimp only at ab);go_simp;(try with_reducible rfl))
    try simp only[pu]
    refine' wpAnyH_take (i:=9) (oi:=⟨some 31,_,_,_,_,_⟩) (v:=_) rfl (by kernel_rfl) (by kernel_rfl) (by kernel_rfl) (fun _ _ _ h=>h) (Or.inl ⟨by rfl,?_⟩) hHeld ?_
    rotate_left
    ·(intro w' ab;(try dsimp only at ab);go_simp;(try with_reducible rfl))
    try simp only[pu]
    refine' wpAnyH_take (i:=10) (oi:=⟨some 32,_,_,_,_,_⟩) (v:=_) rfl (by kernel_rfl) (by kernel_rfl) (by kernel_rfl) (fun _ _ _ h=>h) (Or.inl ⟨by rfl,?_⟩) hHeld ?_
    rotate_left
    ·(intro w' ab;(try dsimp only at ab);go_simp;(try with_reducible rfl))
    try simp only[pu]
    refine' wpAnyH_take (i:=11) (oi:=⟨some 33,_,_,_,_,_⟩) (v:=_) rfl (by kernel_rfl) (by kernel_rfl) (by kernel_rfl) (fun _ _ _ h=>h) (Or.inl ⟨by rfl,?_⟩) hHeld ?_
    rotate_left
    ·(intro w' ab;(try dsimp only at ab);go_simp;(try with_reducible rfl))
    try simp only[pu]
    refine' wpAnyH_take (i:=12) (oi:=⟨some 34,_,_,_,_,_⟩) (v:=_) rfl (by kernel_rfl) (by kernel_rfl) (by kernel_rfl) (fun _ _ _ h=>h) (Or.inl ⟨by rfl,?_⟩) hHeld ?_
    rotate_left
    ·(intro w' ab;(try dsimp only at ab);go_simp;(try with_reducible rfl))
    try simp only[pu]
    refine' wpAnyH_take (i:=13) (oi:=⟨some 35,_,_,_,_,_⟩) (v:=_) rfl (by kernel_rfl) (by kernel_rfl) (by kernel_rfl) (fun _ _ _ h=>h) (Or.inl ⟨by rfl,?_⟩) hHeld ?_
    rotate_left
    ·(intro w' ab;(try dsimp only at ab);go_simp;(try with_reducible rfl))
    try simp only[pu]
    refine' wpAnyH_take (i:=14) (oi:=⟨some 36,_,_,_,_,_⟩) (v:=_) rfl (by kernel_rfl) (by kernel_rfl) (by kernel_rfl) (fun _ _ _ h=>h) (Or.inl ⟨by rfl,?_⟩) hHeld ?_
    rotate_left
    ·(intro w' ab;(try dsimp only at ab);go_simp;(try with_reducible rfl))
    try simp only[pu]
    refine' wpAnyH_take (i:=15) (oi:=⟨some 37,_,_,_,_,_⟩) (v:=_) rfl (by kernel_rfl) (by kernel_rfl) (by kernel_rfl) (fun _ _ _ h=>h) (Or.inl ⟨by rfl,?_⟩) hHeld ?_
    rotate_left
    ·(intro w' ab;(try dsimp only at ab);go_simp;(try with_reducible rfl))
    try simp only[pu]
    refine' wpAnyH_take (i:=16) (oi:=⟨some 38,_,_,_,_,_⟩) (v:=_) rfl (by kernel_rfl) (by kernel_rfl) (by kernel_rfl) (fun _ _ _ h=>h) (Or.inl ⟨by rfl,?_⟩) hHeld ?_
    rotate_left
    ·(intro w' ab;(try dsimp only at ab);go_simp;(try with_reducible rfl))
    try simp only[pu]
    refine' wpAnyH_take (i:=17) (oi:=⟨some 39,_,_,_,_,_⟩) (v:=_) rfl (by kernel_rfl) (by kernel_rfl) (by kernel_rfl) (fun _ _ _ h=>h) (Or.inl ⟨by rfl,?_⟩) hHeld ?_
    rotate_left
    ·(intro w' ab;(try dsimp only at ab);go_simp;(try with_reducible rfl))
    try simp only[pu]
    refine' wpAnyH_take (i:=18) (oi:=⟨some 40,_,_,_,_,_⟩) (v:=_) rfl (by kernel_rfl) (by kernel_rfl) (by kernel_rfl) (fun _ _ _ h=>h) (Or.inl ⟨by rfl,?_⟩) hHeld ?_
    rotate_left
    ·(intro w' ab;(try dsimp only at ab);go_simp;(try with_reducible rfl))
    try simp only[pu]
    refine' wpAnyH_take (i:=19) (oi:=⟨some 41,_,_,_,_,_⟩) (v:=_) rfl (by kernel_rfl) (by kernel_rfl) (by kernel_rfl) (fun _ _ _ h=>h) (Or.inl ⟨by rfl,?_⟩) hHeld ?_
    rotate_left
    ·(intro w' ab;(try dsimp only at ab);go_simp;(try with_reducible rfl))
    try simp only[pu]
    refine' wpAnyH_take (i:=20) (oi:=⟨some 42,_,_,_,_,_⟩) (v:=_) rfl (by kernel_rfl) (by kernel_rfl) (by kernel_rfl) (fun _ _ _ h=>h) (Or.inl ⟨by rfl,?_⟩) hHeld ?_
    rotate_left
    ·(intro w' ab;(try dsimp only at ab);go_simp;(try with_reducible rfl))
    try simp only[pu]
    refine' wpAnyH_take (i:=21) (oi:=⟨some 43,_,_,_,_,_⟩) (v:=_) rfl (by kernel_rfl) (by kernel_rfl) (by kernel_rfl) (fun _ _ _ h=>h) (Or.inl ⟨by rfl,?_⟩) hHeld ?_
    rotate_left
    ·(intro w' ab;(try dsimp only at ab);go_simp;(try with_reducible rfl))
    try simp only[pu]
    refine' wpAnyH_take (i:=22) (oi:=⟨some 44,_,_,_,_,_⟩) (v:=_) rfl (by kernel_rfl) (by kernel_rfl) (by kernel_rfl) (fun _ _ _ h=>h) (Or.inl ⟨by rfl,?_⟩) hHeld ?_
    rotate_left
    ·(intro w' ab;(try dsimp only at ab);go_simp;(try with_reducible rfl))
    try simp only[pu]
    refine wpAnyH_ready (rs:=[23]) (by kernel_rfl) (by simp) ?_
    refine AllReadyH.cons (i:=23) rfl (fun K hK=> ?_) AllReadyH.nil;go_simp
    (go_at_call 89;refine(lL.o _ (aN.o.trans hHeld.1)).mono ?_;rintro e dj ⟨rfl,dn⟩)
    try go_wp2_with fail
    refine hK.out _ _ ?_ (fun hHeld=> ?_)
    ·exact ei.o _ _ hHeld dn
    clear hK K;try simp only[pu]
    refine' wpAnyH_take (i:=24) (oi:=⟨some 46,_,_,_,_,_⟩) (v:=_) rfl (by kernel_rfl) (by kernel_rfl) (by kernel_rfl) (fun _ _ _ h=>h) (Or.inl ⟨by rfl,?_⟩) hHeld ?_
    rotate_left
    ·(intro w' ab;(try dsimp only at ab);go_simp;(try with_reducible rfl))
    try simp only[pu]
    refine' wpAnyH_take (i:=25) (oi:=⟨some 47,_,_,_,_,_⟩) (v:=_) rfl (by kernel_rfl) (by kernel_rfl) (by kernel_rfl) (fun _ _ _ h=>h) (Or.inl ⟨by rfl,?_⟩) hHeld ?_
    rotate_left
    ·(intro w' ab;(try dsimp only at ab);go_simp;(try with_reducible rfl))
    try simp only[pu]
    refine wpAnyH_done (by kernel_rfl) ?_ _
    have gH:=J (aN.o.trans hHeld.1);clear hHeld ei;go_wp2_with fail;go_roundw
    case rel=>exact⟨(p+1)+1,by omega,by go_num,iM.o,gH.o⟩
    case measure=>simp[intOf]<;>omega
   ·have ao:=J (cP.o hz);rw[decide_eq_false hz]at lL;clear hz hl;have ei:Hid (∀w1 w2,(fun w':World=>Ext w7 w'/\w'.cell? ⟨nb,0,none⟩=some (.string s)/\w'.cell? ⟨nb,1,none⟩=some (.int .i64 z)/\w'.cell? ⟨gb,o+p*2,none⟩=some (.string sp)) w1->Ext w1 w2->(fun w':World=>Ext w7 w'/\w'.cell? ⟨nb,0,none⟩=some (.string s)/\w'.cell? ⟨nb,1,none⟩=some (.int .i64 z)/\w'.cell? ⟨gb,o+p*2,none⟩=some (.string sp)) w2):=J (fun w1 w2 h hx=>by
     obtain⟨p0,p1,p2,p3⟩:=h;exact⟨p0.trans hx,hx.keep p1,hx.keep p2,hx.keep p3⟩)
    refine wp_region_held_drew (S:=fun w'=>Ext w7 w'/\w'.cell? ⟨nb,0,none⟩=some (.string s)/\w'.cell? ⟨nb,1,none⟩=some (.int .i64 z)/\w'.cell? ⟨gb,o+p*2,none⟩=some (.string sp)) (by kernel_rfl) (by exact⟨(Ext.refl w7).drew,dD.o.1,dD.o.2,aN.o.keep vk.o⟩) (fun hHeld=> ?_);refine' wpAnyH_take (i:=0) (oi:=⟨some 22,_,_,_,_,_⟩) (v:=_) rfl (by kernel_rfl) (by kernel_rfl) (by kernel_rfl) (fun _ _ _ h=>h) (Or.inl ⟨by rfl,?_⟩) hHeld ?_
    rotate_left
    ·(intro w' ab;(try dsimp only at ab);go_simp;(try with_reducible rfl))
    try simp only[pu]
    refine' wpAnyH_take (i:=1) (oi:=⟨some 23,_,_,_,_,_⟩) (v:=_) rfl (by kernel_rfl) (by kernel_rfl) (by kernel_rfl) (fun _ _ _ h=>h) (Or.inl ⟨by rfl,?_⟩) hHeld ?_
    rotate_left
    ·(intro w' ab;(try dsimp only at ab);go_simp;(try with_reducible rfl))
    try simp only[pu]
    refine wpAnyH_ready (rs:=[2]) (by kernel_rfl) (by simp) ?_
    refine AllReadyH.cons (i:=2) rfl (fun K hK=> ?_) AllReadyH.nil;go_simp
    (go_at_call 99;refine(kZ.o _).mono ?_;rintro e w8 ⟨rfl,bS⟩)
    try go_wp2_with fail
    refine hK.out _ _ ?_ (fun hHeld=> ?_)
    ·exact ei.o _ _ hHeld bS
    clear hK K;try simp only[pu]
    refine' wpAnyH_take (i:=3) (oi:=⟨some 25,_,_,_,_,_⟩) (v:=_) rfl (by kernel_rfl) (by kernel_rfl) (by kernel_rfl) (fun _ _ _ h=>h) (Or.inl ⟨by rfl,?_⟩) hHeld ?_
    rotate_left
    ·(intro w' ab;(try dsimp only at ab);go_simp;(try with_reducible rfl))
    try simp only[pu]
    refine' wpAnyH_take (i:=4) (oi:=⟨some 26,_,_,_,_,_⟩) (v:=_) rfl (by kernel_rfl) (by kernel_rfl) (by kernel_rfl) (fun _ _ _ h=>h) (Or.inl ⟨by rfl,?_⟩) hHeld ?_
    rotate_left
    ·(intro w' ab;(try dsimp only at ab);go_simp;(try with_reducible rfl))
    try simp only[pu]
    refine' wpAnyH_take (i:=5) (oi:=⟨some 27,_,_,_,_,_⟩) (v:=_) rfl (by kernel_rfl) (by kernel_rfl) (by kernel_rfl) (fun _ _ _ h=>h) (Or.inl ⟨by rfl,?_⟩) hHeld ?_
    rotate_left
    ·(intro w' ab;(try dsimp only at ab);go_simp;(try with_reducible rfl))
    try simp only[pu]
    refine' wpAnyH_take (i:=6) (oi:=⟨some 28,_,_,_,_,_⟩) (v:=_) rfl (by kernel_rfl) (by kernel_rfl) (by kernel_rfl) (fun _ _ _ h=>h) (Or.inl ⟨by rfl,?_⟩) hHeld ?_
    rotate_left
    ·(intro w' ab;(try dsimp only at ab);go_simp;(try with_reducible rfl))
    try simp only[pu]
    refine' wpAnyH_take (i:=7) (oi:=⟨some 29,_,_,_,_,_⟩) (v:=_) rfl (by kernel_rfl) (by kernel_rfl) (by kernel_rfl) (fun _ _ _ h=>h) (Or.inl ⟨by rfl,?_⟩) hHeld ?_
    rotate_left
    ·(intro w' ab;(try dsimp only at ab);go_simp;(try with_reducible rfl))
    try simp only[pu]
    refine' wpAnyH_take (i:=8) (oi:=⟨some 30,_,_,_,_,_⟩) (v:=_) rfl (by kernel_rfl) (by kernel_rfl) (by kernel_rfl) (fun _ _ _ h=>h) (Or.inl ⟨by rfl,?_⟩) hHeld ?_
    rotate_left
    ·(intro w' ab;(try dsimp only at ab);go_simp;(try with_reducible rfl))
    try simp only[pu]
    refine' wpAnyH_take (i:=9) (oi:=⟨some 31,_,_,_,_,_⟩) (v:=_) rfl (by kernel_rfl) (by kernel_rfl) (by kernel_rfl) (fun _ _ _ h=>h) (Or.inl ⟨by rfl,?_⟩) hHeld ?_
    rotate_left
    ·(intro w' ab;(try dsimp only at ab);go_simp;(try with_reducible rfl))
    try simp only[pu]
    refine' wpAnyH_take (i:=10) (oi:=⟨some 32,_,_,_,_,_⟩) (v:=_) rfl (by kernel_rfl) (by kernel_rfl) (by kernel_rfl) (fun _ _ _ h=>h) (Or.inl ⟨by rfl,?_⟩) hHeld ?_
    rotate_left
    ·(intro w' ab;(try dsimp only at ab);go_simp;(try with_reducible rfl))
    try simp only[pu]
    refine' wpAnyH_take (i:=11) (oi:=⟨some 33,_,_,_,_,_⟩) (v:=_) rfl (by kernel_rfl) (by kernel_rfl) (by kernel_rfl) (fun _ _ _ h=>h) (Or.inl ⟨by rfl,?_⟩) hHeld ?_
    rotate_left
    ·(intro w' ab;(try dsimp only at ab);go_simp;(try with_reducible rfl))
    try simp only[pu]
    refine' wpAnyH_take (i:=12) (oi:=⟨some 34,_,_,_,_,_⟩) (v:=_) rfl (by kernel_rfl) (by kernel_rfl) (by kernel_rfl) (fun _ _ _ h=>h) (Or.inl ⟨by rfl,?_⟩) hHeld ?_
    rotate_left
    ·(intro w' ab;(try dsimp only at ab);go_simp;(try with_reducible rfl))
    try simp only[pu]
    refine' wpAnyH_take (i:=13) (oi:=⟨some 35,_,_,_,_,_⟩) (v:=_) rfl (by kernel_rfl) (by kernel_rfl) (by kernel_rfl) (fun _ _ _ h=>h) (Or.inl ⟨by rfl,?_⟩) hHeld ?_
    rotate_left
    ·(intro w' ab;(try dsimp only at ab);go_simp;(try with_reducible rfl))
    try simp only[pu]
    refine' wpAnyH_take (i:=14) (oi:=⟨some 36,_,_,_,_,_⟩) (v:=_) rfl (by kernel_rfl) (by kernel_rfl) (by kernel_rfl) (fun _ _ _ h=>h) (Or.inl ⟨by rfl,?_⟩) hHeld ?_
    rotate_left
    ·(intro w' ab;(try dsimp only at ab);go_simp;(try with_reducible rfl))
    try simp only[pu]
    refine' wpAnyH_take (i:=15) (oi:=⟨some 37,_,_,_,_,_⟩) (v:=_) rfl (by kernel_rfl) (by kernel_rfl) (by kernel_rfl) (fun _ _ _ h=>h) (Or.inl ⟨by rfl,?_⟩) hHeld ?_
    rotate_left
    ·(intro w' ab;(try dsimp only at ab);go_simp;(try with_reducible rfl))
    try simp only[pu]
    refine' wpAnyH_take (i:=16) (oi:=⟨some 38,_,_,_,_,_⟩) (v:=_) rfl (by kernel_rfl) (by kernel_rfl) (by kernel_rfl) (fun _ _ _ h=>h) (Or.inl ⟨by rfl,?_⟩) hHeld ?_
    rotate_left
    ·(intro w' ab;(try dsimp only at ab);go_simp;(try with_reducible rfl))
    try simp only[pu]
    refine' wpAnyH_take (i:=17) (oi:=⟨some 39,_,_,_,_,_⟩) (v:=_) rfl (by kernel_rfl) (by kernel_rfl) (by kernel_rfl) (fun _ _ _ h=>h) (Or.inl ⟨by rfl,?_⟩) hHeld ?_
    rotate_left
    ·(intro w' ab;(try dsimp only at ab);go_simp;(try with_reducible rfl))
    try simp only[pu]
    refine' wpAnyH_take (i:=18) (oi:=⟨some 40,_,_,_,_,_⟩) (v:=_) rfl (by kernel_rfl) (by kernel_rfl) (by kernel_rfl) (fun _ _ _ h=>h) (Or.inl ⟨by rfl,?_⟩) hHeld ?_
    rotate_left
    ·(intro w' ab;(try dsimp only at ab);go_simp;(try with_reducible rfl))
    try simp only[pu]
    refine' wpAnyH_take (i:=19) (oi:=⟨some 41,_,_,_,_,_⟩) (v:=_) rfl (by kernel_rfl) (by kernel_rfl) (by kernel_rfl) (fun _ _ _ h=>h) (Or.inl ⟨by rfl,?_⟩) hHeld ?_
    rotate_left
    ·(intro w' ab;(try dsimp only at ab);go_simp;(try with_reducible rfl))
    try simp only[pu]
    refine' wpAnyH_take (i:=20) (oi:=⟨some 42,_,_,_,_,_⟩) (v:=_) rfl (by kernel_rfl) (by kernel_rfl) (by kernel_rfl) (fun _ _ _ h=>h) (Or.inl ⟨by rfl,?_⟩) hHeld ?_
    rotate_left
    ·(intro w' ab;(try dsimp only at ab);go_simp;(try with_reducible rfl))
    try simp only[pu]
    refine' wpAnyH_take (i:=21) (oi:=⟨some 43,_,_,_,_,_⟩) (v:=_) rfl (by kernel_rfl) (by kernel_rfl) (by kernel_rfl) (fun _ _ _ h=>h) (Or.inl ⟨by rfl,?_⟩) hHeld ?_
    rotate_left
    ·(intro w' ab;(try dsimp only at ab);go_simp;(try with_reducible rfl))
    try simp only[pu]
    refine' wpAnyH_take (i:=22) (oi:=⟨some 44,_,_,_,_,_⟩) (v:=_) rfl (by kernel_rfl) (by kernel_rfl) (by kernel_rfl) (fun _ _ _ h=>h) (Or.inl ⟨by rfl,?_⟩) hHeld ?_
    rotate_left
    ·(intro w' ab;(try dsimp only at ab);go_simp;(try with_reducible rfl))
    try simp only[pu]
    refine wpAnyH_ready (rs:=[23]) (by kernel_rfl) (by simp) ?_
    refine AllReadyH.cons (i:=23) rfl (fun K hK=> ?_) AllReadyH.nil;go_simp
    (go_at_call 89;refine(lL.o _ (aN.o.trans hHeld.1)).mono ?_;rintro e dj ⟨rfl,dn⟩)
    try go_wp2_with fail
    refine hK.out _ _ ?_ (fun hHeld=> ?_)
    ·exact ei.o _ _ hHeld dn
    clear hK K;try simp only[pu]
    refine' wpAnyH_take (i:=24) (oi:=⟨some 46,_,_,_,_,_⟩) (v:=_) rfl (by kernel_rfl) (by kernel_rfl) (by kernel_rfl) (fun _ _ _ h=>h) (Or.inl ⟨by rfl,?_⟩) hHeld ?_
    rotate_left
    ·(intro w' ab;(try dsimp only at ab);go_simp;(try with_reducible rfl))
    try simp only[pu]
    refine' wpAnyH_take (i:=25) (oi:=⟨some 47,_,_,_,_,_⟩) (v:=_) rfl (by kernel_rfl) (by kernel_rfl) (by kernel_rfl) (fun _ _ _ h=>h) (Or.inl ⟨by rfl,?_⟩) hHeld ?_
    rotate_left
    ·(intro w' ab;(try dsimp only at ab);go_simp;(try with_reducible rfl))
    try simp only[pu]
    refine wpAnyH_done (by kernel_rfl) ?_ _
    have gH:=J (aN.o.trans hHeld.1);clear hHeld ei;go_wp2_with fail;go_ret;exact⟨false,rfl,⟨(fun h=>by cases h),fun h=>absurd h ao.o⟩,gH.o⟩
  ·obtain rfl:k=n:=by omega
   have bV:=J (HS.o.ok (by rw[<-HN.o];exact qad _) uD.o);have am:=J hx;obtain⟨w2,aY⟩:∃w2,w2=wr:=⟨_,rfl⟩;rw[<-aY]at am;have Xo:Ext w2 wr:=by rw[aY];exact Ext.refl wr
   have mf:=J Xo;clear hx HS iO HX aY Xo;go_wp2_with fail;go_loopw [8,9,11,51] (fun _ _ _ Fn wr=>∃j:Nat,j<=k/\Fn= .int .i64 (j:Int)/\Fv ns env j/\Ext w2 wr) (fun _ _ _ Fn _=>k-(intOf Fn).toNat)
   case atStart=>exact⟨0,qal _,rfl,Fv.start ns env,mf.o⟩
   case round=>
    clear mf;obtain⟨j,hj,rfl,hf,hx⟩:=hrel;have HF:=J hf;have HX:=J hx;clear hf;generalize wr=wa at *;by_cases hlt:j<k
    ·have jg:j<env.length:=by rw[<-HN.o];exact hlt
     obtain⟨gb,o,rfl,bC,hc⟩:=cw.o (by rw[<-HN.o];omega);obtain⟨p0,p1⟩:=hc j jg;rw[<-(am.o.trans hx).cell bC]at p0 p1;have hgr:gb<wa.heap.size:=qaj bC (am.o.trans hx).size;have mO:(0:Int)<=(j:Int):=by omega
     have nA:(j:Int)<(k:Int):=by omega
     have y9:IntKind.i64.wrap ((j:Int)+1)=(j:Int)+1:=IntWalk.i64_in _ (by omega);have aP:=J (fun h1 h2=>HF.o.step jg h1 h2);have aW:=bV.o.node _ (qap jg);have cP:Hid (Bv ns env->CY ns env env[j].2.toNat/\¬BO ns env env[j].2.toNat env[j].1):=J (fun h=>⟨h.bound _ (qap jg),h.free _ (qap jg)⟩);clear hc hx;generalize env[j]=y at *;clear jg;obtain⟨t,z⟩:=y;simp only at p0 p1 aP aW cP;have yu:=J aW;have uG:=J (fun W v ls (ha:BB W v ls) hl=>P9 W v ls ha hl t);obtain⟨s,hs⟩:∃s:ByteArray,str t= .string s:=⟨_,rfl⟩;rw[hs]at p0 uG;clear hs aW;go_upto_region 12 with fail;have gl:=Blk.new wa 62 #[.string s,.int .i64 z];have bG:=(Ext.refl wa).alloc (.cells #[.string s,.int .i64 z] 62);generalize wa.alloc (.cells #[.string s,.int .i64 z] 62)=w7 at *;generalize wa.heap.size=nb at *;obtain⟨q0,q1⟩:=gl.twoB;have aN:=J (HX.o.trans bG);have dD:=J gl;have db:=J (FH B g w7 ns rv (HG.o.keep (am.o.trans aN.o)) z);unfold E4 at db;clear gl bG p0 p1 hgr;go_wp2_with fail;refine db.o.mono ?_
     rintro e w3 ⟨v3,l,rfl,vc,eZ,_,ae⟩;have ag:=J (aN.o.trans ae);have ck:=J (dD.o.ext ae);obtain⟨hl2,je⟩:=Bs.texts HG.o.ok eZ;have Vv:=HG.o.few;have vj:=J (Qb B g w3 ns rv (HG.o.keep (am.o.trans ag.o)) _ env (re.o.ext (am.o.trans ag.o)) (by rw[<-HN.o];omega) v3 l vc (by omega) (Bi ns z) (Bi.mem eZ) (Dz ns) je (fun t ht=>ht) (by unfold Dz;rw[qag];omega) (fun t ht=>by have:=CJ HG.o.ok t ht;omega));unfold Ic at vj;obtain⟨m3,A3,c3,rfl⟩:=vc.shape;clear eZ ae vc hl2 je db q0 q1;go_wp2_with fail;refine vj.o.mono ?_
     rintro e w4 ⟨v4,L,rfl,jO,VY,e9,hU4,XS,aJ⟩;have aD:=J (ag.o.trans aJ);have dl:=J (ck.o.ext aJ);have nr:=J jO.arr;have eh:Hid (∀t,t∈L↔BO ns env z.toNat t):=J (fun t=>(e9 t).trans (NH yu.o.1 yu.o.2 t));obtain⟨A4,c4,rfl⟩:=Oe jO;obtain⟨m,hm⟩:∃m,m=L.length:=⟨_,rfl⟩;have HM:=J hm;have Y2:=J (fun W (hx:Ext w4 W)=>uG.o W _ L (nr.o.ext hx) (by omega));rw[<-hm]at XS nr Y2 ⊢;clear aJ jO VY e9 hU4 vj hm ck uG;go_wp2_with fail;go_loopw [64,11] (fun z7 _ wr=>∃i:Nat,i<=m/\z7= .int .i64 (i:Int)/\(∀t∈L.take i,0<=AH env t)/\Ext w4 wr) (fun z7 _ _=>m-(intOf z7).toNat)
     case atStart=>exact⟨0,qal _,rfl,by rw[qaK];exact(fun t ht=>by cases ht),Ext.refl w4⟩
     case round=>
      obtain⟨i,hi,rfl,jx,hx⟩:=hrel;have xY:=J hx;by_cases hlt2:i<m
      ·have qE:i<L.length:=by rw[<-HM.o];exact hlt2
       obtain⟨_,_,hv,_,_,bj⟩:=nr.o.open;injection hv with hv1 hv2 hv3
       subst hv1;clear hv2 hv3;obtain⟨ga,oa,rfl,fJ,bj⟩:=bj (by rw[<-HM.o];omega);have p0:=(hx.cell fJ).trans (bj i qE);have dW:(0:Int)<=(i:Int):=by omega
       have hil:(i:Int)<(m:Int):=by omega
       have lS:IntKind.i64.wrap ((i:Int)+1)=(i:Int)+1:=IntWalk.i64_in _ (by omega);have dP:Hid (0<=AH env L[i]->∀t∈L.take (i+1),0<=AH env t):=J (fun h t ht=>by
        rw[qah qE]at ht;rcases qax.1 ht with ht|ht
        ·exact jx t ht
        ·rw[qav]at ht;rw[ht];exact h)
       have YV:Hid (L[i]∈L):=J (qap qE);clear bj jx hx;generalize L[i]=x at *;clear qE;have mr:=J (et.o wr (am.o.trans (aD.o.trans xY.o)) x);obtain⟨zf,hz⟩:∃zf,AH env x=zf:=⟨_,rfl⟩;have HZ:=J hz;rw[hz]at mr dP;obtain⟨sx,uQ⟩:∃sx:ByteArray,str x= .string sx:=⟨_,rfl⟩;rw[uQ]at mr p0;clear uQ hz;by_cases h0:0<=zf
       ·have hd:decide (zf<0)=false:=decide_eq_false (by omega);have pL:=J (dP.o h0);clear dP h0;go_wp2_with fail;refine mr.o.mono ?_
        rintro e w6 ⟨rfl,bz⟩;have aZ:=J (xY.o.trans bz);clear bz p0;go_wp2_with fail;go_roundw
        case rel=>exact⟨i+1,by omega,by go_num,pL.o,aZ.o⟩
        case measure=>simp[intOf]<;>omega
       ·have hd:decide (zf<0)=true:=decide_eq_true (by omega);have aX:Hid (¬Bv ns env):=J (fun h=>by
         have h1:=(cP.o h).1 x ((eh.o x).1 YV.o);rw[HZ.o]at h1;exact h0 h1)
        clear dP h0;go_wp2_with fail;refine mr.o.mono ?_
        rintro e w6 ⟨rfl,bz⟩;have aZ:=J (am.o.trans (aD.o.trans (xY.o.trans bz)));clear bz p0;go_wp2_with fail;go_ret;exact⟨false,rfl,⟨(fun h=>by cases h),fun h=>absurd h aX.o⟩,aZ.o⟩
      ·obtain rfl:i=m:=by omega
       have Xc:Hid (CY ns env z.toNat):=J (fun t ht=>by
        have h1:=(eh.o t).2 ht;rw[show L.take i=L from qak (by rw[<-HM.o];exact qad _)]at jx;exact jx t h1)
       have mw:=J (Y2.o wr hx);obtain⟨d,hdd⟩:∃d,decide (t∈L)=d:=⟨_,rfl⟩;have qe:=J hdd;rw[hdd]at mw;obtain⟨q0,q1⟩:=(dl.o.ext hx).twoB;clear jx hx hdd;cases d
       ·have iM:=J (aP.o Xc.o (fun h=>by have h1:=(eh.o t).2 h;rw[decide_eq_true h1]at qe;cases qe.o));go_wp2_with fail;refine mw.o.mono ?_
        rintro e w9 ⟨rfl,rfl⟩;go_wp2_with fail;go_roundw
        case rel=>exact⟨j+1,by omega,by go_num,iM.o,aD.o.trans xY.o⟩
        case measure=>simp[intOf]<;>omega
       ·have aX:Hid (¬Bv ns env):=J (fun h=>(cP.o h).2 ((eh.o t).1 (of_decide_eq_true qe.o)));go_wp2_with fail;refine mw.o.mono ?_
        rintro e w9 ⟨rfl,rfl⟩;go_wp2_with fail;go_ret;exact⟨false,rfl,⟨(fun h=>by cases h),fun h=>absurd h aX.o⟩,am.o.trans (aD.o.trans xY.o)⟩
    ·obtain rfl:j=k:=by omega
     have eQ:=J (HF.o.good (by rw[<-HN.o];exact qad _) bV.o);clear hx;go_wp2_with fail;go_ret;exact⟨true,rfl,⟨fun _=>eQ.o,fun _=>rfl⟩,am.o.trans HX.o⟩
end Big
end Go.Proofs.YtkoaogkknnelaaaGreatDoor
