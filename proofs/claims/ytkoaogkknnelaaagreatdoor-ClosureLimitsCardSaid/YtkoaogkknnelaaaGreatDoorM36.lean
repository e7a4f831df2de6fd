import Derived.Test.YtkoaogkknnelaaaGreatDoorM35
import Derived.Laws.Cover1
set_option linter.unusedVariables false
set_option linter.unusedSimpArgs false
set_option maxHeartbeats 16000000
set_option maxRecDepth 100000
namespace Go.Proofs.YtkoaogkknnelaaaGreatDoor
namespace Big
open Lib renaming hid → J
open Go.RowKit Go.Maps Go.Sort
def Cp(ns:List Nd)(env:Env)(w:World)(e:Ending)(w':World):Prop:=∃d:Bool,e= .returned (.bool d)/\(d=true↔AO ns env)/\Ext w w'
theorem G5{a b:Tx}{s u:ByteArray}(h1:str a= .string s)(h2:str b= .string u):Op.bytesLess s.toList u.toList=decide (a<b):=by
 have e1:s=⟨a.toArray⟩:=by
  unfold str at h1;injection h1 with h1
  exact h1.symm
 have e2:u=⟨b.toArray⟩:=by
  unfold str at h2;injection h2 with h2
  exact h2.symm
 rw[e1,e2,ByteArray.toList_mk,ByteArray.toList_mk,EQ]
theorem Df(B g b:Nat)(w:World)(ns:List Nd)(nv:Value)(h:GrP B g b w ns nv)(v:Value)(env:Env)(he:RdE w v env)(hn:env.length<=100000)(cd:TxE env):
  Calls Tryz.prog 34 #[.pointer (some ⟨g,0,none⟩),v] w (Cp ns env w):=by
 have HG:=J h;have lk:=J he;have eD:=J cd;have fc:=J (fun W (hx:Ext w W) z=>JL B g b W ns nv (HG.o.keep hx) z);obtain⟨A,c,rfl,aB⟩:=he;have bH:=J aB;obtain⟨n,bh⟩:∃n,n=env.length:=⟨_,rfl⟩;have HN:=J bh;unfold Cp;clear h aB cd;by_cases hfew:env.length<=64;rotate_left
 ·have HB:=J (Pe (ns:=ns) hfew);have hd:decide ((n:Int)>64)=true:=decide_eq_true (by omega);have ba:(64:Int)<(n:Int):=by omega
  rw[<-bh]at hn lk ⊢;clear bh hfew ba;go_enter Tryz.func34,Tryz.ntmps34;go_wp2_with fail;go_ret;exact⟨false,rfl,⟨(fun h=>by cases h),fun h=>absurd h HB.o⟩,Ext.refl w⟩
 have tr:=J hfew;have hd:decide ((n:Int)>64)=false:=decide_eq_false (by omega);have ba:¬(64:Int)<(n:Int):=by omega
 have zn:n<=64:=by omega
 rw[<-bh]at hn lk ⊢;clear bh hfew ba;go_enter Tryz.func34,Tryz.ntmps34;go_wp2_with fail;go_loopw [5,18] (fun _ s18 wr=>∃k:Nat,k<=n/\s18= .int .i64 (k:Int)/\Fx ns env k/\Ext w wr) (fun _ s18 _=>n-(intOf s18).toNat)
 case atStart=>exact⟨0,Nat.zero_le _,rfl,Fx.start ns env,Ext.refl w⟩
 case round=>
  clear hd;obtain⟨k,hk,rfl,hs,hx⟩:=hrel;have HS:=J hs;have HX:=J hx;clear hs;by_cases hlt:k<n
  ·have bB:k<env.length:=by rw[<-HN.o];exact hlt
   have dg:=bH.o (by rw[<-HN.o];omega);obtain⟨gb,o,rfl,bO,hc⟩:=dg;obtain⟨p0,p1⟩:=hc k bB;rw[<-hx.cell bO]at p0 p1;have fy:(0:Int)<=(k:Int):=by omega
   have lD:(k:Int)<(n:Int):=by omega
   have iW:IntKind.i64.wrap ((k:Int)+1)=(k:Int)+1:=IntWalk.i64_in _ (by omega);have aF:=J (fun h1 h2 h3=>HS.o.step bB h1 h2 h3);have cG:=J (Nc (ns:=ns) bB);have cT:=J (Nb (ns:=ns) bB);have mr:=J (eD.o _ (List.getElem_mem bB));have eO:Hid (k=0\/∃p,k=p+1/\∃hp:p<env.length,w.cell? ⟨gb,o+p*2,none⟩=some (str env[p].1)/\(env[p].1<env[k].1->DB (env.take (k+1)))/\(¬env[p].1<env[k].1->¬AO ns env)):=J (by
    rcases k with _|p
    ·exact .inl rfl
    ·refine .inr ⟨p,rfl,by omega,(hc p (by omega)).1,fun h=>Nf bB HS.o.2 h,fun h=>Pf bB h⟩)
   have Vp:Hid (k=0->DB (env.take (k+1))):=J (fun h=>by subst h;exact Le bB);clear hc hx;generalize env[k]=y at *;clear bB;obtain⟨t,z⟩:=y;simp only at p0 p1 aF cG cT mr eO;have kD:=J (fun W=>I5 W t (by have:=mr.o.1;omega));have iH:=J (fun W=>Ff W t);have qc:Hid (Cs t=(CS t && !Bb t)):=J (by rw[B3];rfl);obtain⟨s,hs⟩:∃s:ByteArray,str t= .string s:=⟨_,rfl⟩;rw[hs]at p0 kD iH;have i2:=J hs;clear hs;go_upto_region 6 with fail;have dx:=Blk.new wr 62 #[.string s,.int .i64 z];have bq:=(Ext.refl wr).alloc (.cells #[.string s,.int .i64 z] 62);generalize wr.alloc (.cells #[.string s,.int .i64 z] 62)=w7 at *;generalize wr.heap.size=nb at *;have ay:=J (HX.o.trans bq);have bX:=J dx.twoB;clear dx bq p0 p1;generalize hwb:CS t=wb at *;generalize jF:Bb t=rb at *;clear hwb jF;cases wb
   ·have ar:=J (cG.o (by rw[qc.o];rfl));clear fc;have eh:Hid (∀w1 w2,(fun w':World=>Ext w7 w'/\w'.cell? ⟨nb,0,none⟩=some (.string s)/\w'.cell? ⟨nb,1,none⟩=some (.int .i64 z)) w1->Ext w1 w2->(fun w':World=>Ext w7 w'/\w'.cell? ⟨nb,0,none⟩=some (.string s)/\w'.cell? ⟨nb,1,none⟩=some (.int .i64 z)) w2):=J (fun w1 w2 h hx=>by
     obtain⟨p0,p1,p2⟩:=h;exact⟨p0.trans hx,hx.keep p1,hx.keep p2⟩)
    refine wp_region_held_drew (S:=fun w'=>Ext w7 w'/\w'.cell? ⟨nb,0,none⟩=some (.string s)/\w'.cell? ⟨nb,1,none⟩=some (.int .i64 z)) (by kernel_rfl) (by exact⟨(Ext.refl w7).drew,bX.o.1,bX.o.2⟩) (fun hHeld=> ?_);refine' wpAnyH_take (i:=0) (oi:=⟨some 23,_,_,_,_,_⟩) (v:=_) rfl (by kernel_rfl) (by kernel_rfl) (by kernel_rfl) (fun _ _ _ h=>h) (Or.inl ⟨by rfl,?_⟩) hHeld ?_
    rotate_left
    ·(intro w' aa;(try dsimp only at aa);go_simp;(try with_reducible rfl))
    try simp only[pu]
    refine' wpAnyH_take (i:=1) (oi:=⟨some 24,_,_,_,_,_⟩) (v:=_) rfl (by kernel_rfl) (by kernel_rfl) (by kernel_rfl) (fun _ _ _ h=>h) (Or.inl ⟨by rfl,?_⟩) hHeld ?_
    rotate_left
    ·(intro w' aa;(try dsimp only at aa);go_simp;(try with_reducible rfl))
    try simp only[pu]
    refine wpAnyH_ready (rs:=[2]) (by kernel_rfl) (by simp) ?_
    refine AllReadyH.cons (i:=2) rfl (fun K hK=> ?_) AllReadyH.nil;go_simp
    (go_at_call 94;refine(kD.o _).mono ?_;rintro e w8 ⟨rfl,rfl⟩)
    try go_wp2_with fail
    refine hK.out _ _ ?_ (fun hHeld=> ?_)
    ·exact hHeld
    clear hK K;try simp only[pu]
    refine' wpAnyH_take (i:=3) (oi:=⟨some 26,_,_,_,_,_⟩) (v:=_) rfl (by kernel_rfl) (by kernel_rfl) (by kernel_rfl) (fun _ _ _ h=>h) (Or.inl ⟨by rfl,?_⟩) hHeld ?_
    rotate_left
    ·(intro w' aa;(try dsimp only at aa);go_simp;(try with_reducible rfl))
    try simp only[pu]
    refine' wpAnyH_take (i:=4) (oi:=⟨some 27,_,_,_,_,_⟩) (v:=_) rfl (by kernel_rfl) (by kernel_rfl) (by kernel_rfl) (fun _ _ _ h=>h) (Or.inl ⟨by rfl,?_⟩) hHeld ?_
    rotate_left
    ·(intro w' aa;(try dsimp only at aa);go_simp;(try with_reducible rfl))
    try simp only[pu]
    refine' wpAnyH_take (i:=5) (oi:=⟨some 28,_,_,_,_,_⟩) (v:=undef) rfl (by kernel_rfl) (by kernel_rfl) (by kernel_rfl) (fun _ _ _ h=>h) (Or.inr ⟨by rfl,rfl⟩) hHeld ?_
    try simp only[pu]
    refine' wpAnyH_take (i:=6) (oi:=⟨some 29,_,_,_,_,_⟩) (v:=undef) rfl (by kernel_rfl) (by kernel_rfl) (by kernel_rfl) (fun _ _ _ h=>h) (Or.inr ⟨by rfl,rfl⟩) hHeld ?_
    try simp only[pu]
    refine' wpAnyH_take (i:=7) (oi:=⟨some 30,_,_,_,_,_⟩) (v:=undef) rfl (by kernel_rfl) (by kernel_rfl) (by kernel_rfl) (fun _ _ _ h=>h) (Or.inr ⟨by rfl,rfl⟩) hHeld ?_
    try simp only[pu]
    refine' wpAnyH_take (i:=8) (oi:=⟨some 31,_,_,_,_,_⟩) (v:=_) rfl (by kernel_rfl) (by kernel_rfl) (by kernel_rfl) (fun _ _ _ h=>h) (Or.inl ⟨by rfl,?_⟩) hHeld ?_
    rotate_left
    ·(intro w' aa;(try dsimp only at aa);go_simp;(try with_reducible rfl))
    try simp only[pu]
    refine' wpAnyH_take (i:=9) (oi:=⟨some 32,_,_,_,_,_⟩) (v:=_) rfl (by kernel_rfl) (by kernel_rfl) (by kernel_rfl) (fun _ _ _ h=>h) (Or.inl ⟨by rfl,?_⟩) hHeld ?_
    rotate_left
    ·(intro w' aa;(try dsimp only at aa);go_simp;(try with_reducible rfl))
    try simp only[pu]
    refine' wpAnyH_take (i:=10) (oi:=⟨some 33,_,_,_,_,_⟩) (v:=undef) rfl (by kernel_rfl) (by kernel_rfl) (by kernel_rfl) (fun _ _ _ h=>h) (Or.inr ⟨by rfl,rfl⟩) hHeld ?_
    try simp only[pu]
    refine' wpAnyH_take (i:=11) (oi:=⟨some 34,_,_,_,_,_⟩) (v:=undef) rfl (by kernel_rfl) (by kernel_rfl) (by kernel_rfl) (fun _ _ _ h=>h) (Or.inr ⟨by rfl,rfl⟩) hHeld ?_
    try simp only[pu]
    refine' wpAnyH_take (i:=12) (oi:=⟨some 35,_,_,_,_,_⟩) (v:=undef) rfl (by kernel_rfl) (by kernel_rfl) (by kernel_rfl) (fun _ _ _ h=>h) (Or.inr ⟨by rfl,rfl⟩) hHeld ?_
    try simp only[pu]
    refine' wpAnyH_take (i:=13) (oi:=⟨some 36,_,_,_,_,_⟩) (v:=undef) rfl (by kernel_rfl) (by kernel_rfl) (by kernel_rfl) (fun _ _ _ h=>h) (Or.inr ⟨by rfl,rfl⟩) hHeld ?_
    try simp only[pu]
    refine' wpAnyH_take (i:=14) (oi:=⟨some 37,_,_,_,_,_⟩) (v:=undef) rfl (by kernel_rfl) (by kernel_rfl) (by kernel_rfl) (fun _ _ _ h=>h) (Or.inr ⟨by rfl,rfl⟩) hHeld ?_
    try simp only[pu]
    refine' wpAnyH_take (i:=15) (oi:=⟨some 38,_,_,_,_,_⟩) (v:=_) rfl (by kernel_rfl) (by kernel_rfl) (by kernel_rfl) (fun _ _ _ h=>h) (Or.inl ⟨by rfl,?_⟩) hHeld ?_
    rotate_left
    ·(intro w' aa;(try dsimp only at aa);go_simp;(try with_reducible rfl))
    try simp only[pu]
    refine' wpAnyH_take (i:=16) (oi:=⟨some 39,_,_,_,_,_⟩) (v:=_) rfl (by kernel_rfl) (by kernel_rfl) (by kernel_rfl) (fun _ _ _ h=>h) (Or.inl ⟨by rfl,?_⟩) hHeld ?_
    rotate_left
    ·(intro w' aa;(try dsimp only at aa);go_simp;(try with_reducible rfl))
    try simp only[pu]
    refine' wpAnyH_take (i:=17) (oi:=⟨some 40,_,_,_,_,_⟩) (v:=undef) rfl (by kernel_rfl) (by kernel_rfl) (by kernel_rfl) (fun _ _ _ h=>h) (Or.inr ⟨by rfl,rfl⟩) hHeld ?_
    try simp only[pu]
    refine' wpAnyH_take (i:=18) (oi:=⟨some 41,_,_,_,_,_⟩) (v:=undef) rfl (by kernel_rfl) (by kernel_rfl) (by kernel_rfl) (fun _ _ _ h=>h) (Or.inr ⟨by rfl,rfl⟩) hHeld ?_
    try simp only[pu]
    refine' wpAnyH_take (i:=19) (oi:=⟨some 42,_,_,_,_,_⟩) (v:=undef) rfl (by kernel_rfl) (by kernel_rfl) (by kernel_rfl) (fun _ _ _ h=>h) (Or.inr ⟨by rfl,rfl⟩) hHeld ?_
    try simp only[pu]
    refine' wpAnyH_take (i:=20) (oi:=⟨some 43,_,_,_,_,_⟩) (v:=undef) rfl (by kernel_rfl) (by kernel_rfl) (by kernel_rfl) (fun _ _ _ h=>h) (Or.inr ⟨by rfl,rfl⟩) hHeld ?_
    try simp only[pu]
    refine' wpAnyH_take (i:=21) (oi:=⟨some 44,_,_,_,_,_⟩) (v:=undef) rfl (by kernel_rfl) (by kernel_rfl) (by kernel_rfl) (fun _ _ _ h=>h) (Or.inr ⟨by rfl,rfl⟩) hHeld ?_
    try simp only[pu]
    refine' wpAnyH_take (i:=22) (oi:=⟨some 45,_,_,_,_,_⟩) (v:=undef) rfl (by kernel_rfl) (by kernel_rfl) (by kernel_rfl) (fun _ _ _ h=>h) (Or.inr ⟨by rfl,rfl⟩) hHeld ?_
    try simp only[pu]
    refine' wpAnyH_take (i:=23) (oi:=⟨some 46,_,_,_,_,_⟩) (v:=undef) rfl (by kernel_rfl) (by kernel_rfl) (by kernel_rfl) (fun _ _ _ h=>h) (Or.inr ⟨by rfl,rfl⟩) hHeld ?_
    try simp only[pu]
    refine' wpAnyH_take (i:=24) (oi:=⟨some 47,_,_,_,_,_⟩) (v:=undef) rfl (by kernel_rfl) (by kernel_rfl) (by kernel_rfl) (fun _ _ _ h=>h) (Or.inr ⟨by rfl,rfl⟩) hHeld ?_
    try simp only[pu]
    refine' wpAnyH_take (i:=25) (oi:=⟨some 48,_,_,_,_,_⟩) (v:=undef) rfl (by kernel_rfl) (by kernel_rfl) (by kernel_rfl) (fun _ _ _ h=>h) (Or.inr ⟨by rfl,rfl⟩) hHeld ?_
    try simp only[pu]
    refine' wpAnyH_take (i:=26) (oi:=⟨some 49,_,_,_,_,_⟩) (v:=undef) rfl (by kernel_rfl) (by kernel_rfl) (by kernel_rfl) (fun _ _ _ h=>h) (Or.inr ⟨by rfl,rfl⟩) hHeld ?_
    try simp only[pu]
    refine' wpAnyH_take (i:=27) (oi:=⟨some 50,_,_,_,_,_⟩) (v:=undef) rfl (by kernel_rfl) (by kernel_rfl) (by kernel_rfl) (fun _ _ _ h=>h) (Or.inr ⟨by rfl,rfl⟩) hHeld ?_
    try simp only[pu]
    refine' wpAnyH_take (i:=28) (oi:=⟨some 51,_,_,_,_,_⟩) (v:=undef) rfl (by kernel_rfl) (by kernel_rfl) (by kernel_rfl) (fun _ _ _ h=>h) (Or.inr ⟨by rfl,rfl⟩) hHeld ?_
    try simp only[pu]
    refine' wpAnyH_take (i:=29) (oi:=⟨some 52,_,_,_,_,_⟩) (v:=undef) rfl (by kernel_rfl) (by kernel_rfl) (by kernel_rfl) (fun _ _ _ h=>h) (Or.inr ⟨by rfl,rfl⟩) hHeld ?_
    try simp only[pu]
    refine' wpAnyH_take (i:=30) (oi:=⟨some 53,_,_,_,_,_⟩) (v:=_) rfl (by kernel_rfl) (by kernel_rfl) (by kernel_rfl) (fun _ _ _ h=>h) (Or.inl ⟨by rfl,?_⟩) hHeld ?_
    rotate_left
    ·(intro w' aa;(try dsimp only at aa);go_simp;(try with_reducible rfl))
    try simp only[pu]
    refine wpAnyH_done (by kernel_rfl) ?_ _
    have gC:=J (ay.o.trans hHeld.1);clear hHeld eh;go_wp2_with fail;go_ret;exact⟨false,rfl,⟨(fun h=>by cases h),fun h=>absurd h ar.o⟩,gC.o⟩
   cases rb;rotate_left
   ·have ar:=J (cG.o (by rw[qc.o];rfl));clear fc;have eh:Hid (∀w1 w2,(fun w':World=>Ext w7 w'/\w'.cell? ⟨nb,0,none⟩=some (.string s)/\w'.cell? ⟨nb,1,none⟩=some (.int .i64 z)) w1->Ext w1 w2->(fun w':World=>Ext w7 w'/\w'.cell? ⟨nb,0,none⟩=some (.string s)/\w'.cell? ⟨nb,1,none⟩=some (.int .i64 z)) w2):=J (fun w1 w2 h hx=>by
     obtain⟨p0,p1,p2⟩:=h;exact⟨p0.trans hx,hx.keep p1,hx.keep p2⟩)
    refine wp_region_held_drew (S:=fun w'=>Ext w7 w'/\w'.cell? ⟨nb,0,none⟩=some (.string s)/\w'.cell? ⟨nb,1,none⟩=some (.int .i64 z)) (by kernel_rfl) (by exact⟨(Ext.refl w7).drew,bX.o.1,bX.o.2⟩) (fun hHeld=> ?_);refine' wpAnyH_take (i:=0) (oi:=⟨some 23,_,_,_,_,_⟩) (v:=_) rfl (by kernel_rfl) (by kernel_rfl) (by kernel_rfl) (fun _ _ _ h=>h) (Or.inl ⟨by rfl,?_⟩) hHeld ?_
    rotate_left
    ·(intro w' aa;(try dsimp only at aa);go_simp;(try with_reducible rfl))
    try simp only[pu]
    refine' wpAnyH_take (i:=1) (oi:=⟨some 24,_,_,_,_,_⟩) (v:=_) rfl (by kernel_rfl) (by kernel_rfl) (by kernel_rfl) (fun _ _ _ h=>h) (Or.inl ⟨by rfl,?_⟩) hHeld ?_
    rotate_left
    ·(intro w' aa;(try dsimp only at aa);go_simp;(try with_reducible rfl))
    try simp only[pu]
    refine wpAnyH_ready (rs:=[2]) (by kernel_rfl) (by simp) ?_
    refine AllReadyH.cons (i:=2) rfl (fun K hK=> ?_) AllReadyH.nil;go_simp
    (go_at_call 94;refine(kD.o _).mono ?_;rintro e w8 ⟨rfl,rfl⟩)
    try go_wp2_with fail
    refine hK.out _ _ ?_ (fun hHeld=> ?_)
    ·exact hHeld
    clear hK K;try simp only[pu]
    refine' wpAnyH_take (i:=3) (oi:=⟨some 26,_,_,_,_,_⟩) (v:=_) rfl (by kernel_rfl) (by kernel_rfl) (by kernel_rfl) (fun _ _ _ h=>h) (Or.inl ⟨by rfl,?_⟩) hHeld ?_
    rotate_left
    ·(intro w' aa;(try dsimp only at aa);go_simp;(try with_reducible rfl))
    try simp only[pu]
    refine' wpAnyH_take (i:=4) (oi:=⟨some 27,_,_,_,_,_⟩) (v:=_) rfl (by kernel_rfl) (by kernel_rfl) (by kernel_rfl) (fun _ _ _ h=>h) (Or.inl ⟨by rfl,?_⟩) hHeld ?_
    rotate_left
    ·(intro w' aa;(try dsimp only at aa);go_simp;(try with_reducible rfl))
    try simp only[pu]
    refine' wpAnyH_take (i:=5) (oi:=⟨some 28,_,_,_,_,_⟩) (v:=_) rfl (by kernel_rfl) (by kernel_rfl) (by kernel_rfl) (fun _ _ _ h=>h) (Or.inl ⟨by rfl,?_⟩) hHeld ?_
    rotate_left
    ·(intro w' aa;(try dsimp only at aa);go_simp;(try with_reducible rfl))
    try simp only[pu]
    refine' wpAnyH_take (i:=6) (oi:=⟨some 29,_,_,_,_,_⟩) (v:=_) rfl (by kernel_rfl) (by kernel_rfl) (by kernel_rfl) (fun _ _ _ h=>h) (Or.inl ⟨by rfl,?_⟩) hHeld ?_
    rotate_left
    ·(intro w' aa;(try dsimp only at aa);go_simp;(try with_reducible rfl))
    try simp only[pu]
    refine wpAnyH_ready (rs:=[7]) (by kernel_rfl) (by simp) ?_
    refine AllReadyH.cons (i:=7) rfl (fun K hK=> ?_) AllReadyH.nil;go_simp
    (go_at_call 95;refine(iH.o _).mono ?_;rintro e w9 ⟨rfl,rfl⟩)
    try go_wp2_with fail
    refine hK.out _ _ ?_ (fun hHeld=> ?_)
    ·exact hHeld
    clear hK K;try simp only[pu]
    refine' wpAnyH_take (i:=8) (oi:=⟨some 31,_,_,_,_,_⟩) (v:=_) rfl (by kernel_rfl) (by kernel_rfl) (by kernel_rfl) (fun _ _ _ h=>h) (Or.inl ⟨by rfl,?_⟩) hHeld ?_
    rotate_left
    ·(intro w' aa;(try dsimp only at aa);go_simp;(try with_reducible rfl))
    try simp only[pu]
    refine' wpAnyH_take (i:=9) (oi:=⟨some 32,_,_,_,_,_⟩) (v:=_) rfl (by kernel_rfl) (by kernel_rfl) (by kernel_rfl) (fun _ _ _ h=>h) (Or.inl ⟨by rfl,?_⟩) hHeld ?_
    rotate_left
    ·(intro w' aa;(try dsimp only at aa);go_simp;(try with_reducible rfl))
    try simp only[pu]
    refine' wpAnyH_take (i:=10) (oi:=⟨some 33,_,_,_,_,_⟩) (v:=undef) rfl (by kernel_rfl) (by kernel_rfl) (by kernel_rfl) (fun _ _ _ h=>h) (Or.inr ⟨by rfl,rfl⟩) hHeld ?_
    try simp only[pu]
    refine' wpAnyH_take (i:=11) (oi:=⟨some 34,_,_,_,_,_⟩) (v:=undef) rfl (by kernel_rfl) (by kernel_rfl) (by kernel_rfl) (fun _ _ _ h=>h) (Or.inr ⟨by rfl,rfl⟩) hHeld ?_
    try simp only[pu]
    refine' wpAnyH_take (i:=12) (oi:=⟨some 35,_,_,_,_,_⟩) (v:=undef) rfl (by kernel_rfl) (by kernel_rfl) (by kernel_rfl) (fun _ _ _ h=>h) (Or.inr ⟨by rfl,rfl⟩) hHeld ?_
    try simp only[pu]
    refine' wpAnyH_take (i:=13) (oi:=⟨some 36,_,_,_,_,_⟩) (v:=undef) rfl (by kernel_rfl) (by kernel_rfl) (by kernel_rfl) (fun _ _ _ h=>h) (Or.inr ⟨by rfl,rfl⟩) hHeld ?_
    try simp only[pu]
    refine' wpAnyH_take (i:=14) (oi:=⟨some 37,_,_,_,_,_⟩) (v:=undef) rfl (by kernel_rfl) (by kernel_rfl) (by kernel_rfl) (fun _ _ _ h=>h) (Or.inr ⟨by rfl,rfl⟩) hHeld ?_
    try simp only[pu]
    refine' wpAnyH_take (i:=15) (oi:=⟨some 38,_,_,_,_,_⟩) (v:=_) rfl (by kernel_rfl) (by kernel_rfl) (by kernel_rfl) (fun _ _ _ h=>h) (Or.inl ⟨by rfl,?_⟩) hHeld ?_
    rotate_left
    ·(intro w' aa;(try dsimp only at aa);go_simp;(try with_reducible rfl))
    try simp only[pu]
    refine' wpAnyH_take (i:=16) (oi:=⟨some 39,_,_,_,_,_⟩) (v:=_) rfl (by kernel_rfl) (by kernel_rfl) (by kernel_rfl) (fun _ _ _ h=>h) (Or.inl ⟨by rfl,?_⟩) hHeld ?_
    rotate_left
    ·(intro w' aa;(try dsimp only at aa);go_simp;(try with_reducible rfl))
    try simp only[pu]
    refine' wpAnyH_take (i:=17) (oi:=⟨some 40,_,_,_,_,_⟩) (v:=undef) rfl (by kernel_rfl) (by kernel_rfl) (by kernel_rfl) (fun _ _ _ h=>h) (Or.inr ⟨by rfl,rfl⟩) hHeld ?_
    try simp only[pu]
    refine' wpAnyH_take (i:=18) (oi:=⟨some 41,_,_,_,_,_⟩) (v:=undef) rfl (by kernel_rfl) (by kernel_rfl) (by kernel_rfl) (fun _ _ _ h=>h) (Or.inr ⟨by rfl,rfl⟩) hHeld ?_
    try simp only[pu]
    refine' wpAnyH_take (i:=19) (oi:=⟨some 42,_,_,_,_,_⟩) (v:=undef) rfl (by kernel_rfl) (by kernel_rfl) (by kernel_rfl) (fun _ _ _ h=>h) (Or.inr ⟨by rfl,rfl⟩) hHeld ?_
    try simp only[pu]
    refine' wpAnyH_take (i:=20) (oi:=⟨some 43,_,_,_,_,_⟩) (v:=undef) rfl (by kernel_rfl) (by kernel_rfl) (by kernel_rfl) (fun _ _ _ h=>h) (Or.inr ⟨by rfl,rfl⟩) hHeld ?_
    try simp only[pu]
    refine' wpAnyH_take (i:=21) (oi:=⟨some 44,_,_,_,_,_⟩) (v:=undef) rfl (by kernel_rfl) (by kernel_rfl) (by kernel_rfl) (fun _ _ _ h=>h) (Or.inr ⟨by rfl,rfl⟩) hHeld ?_
    try simp only[pu]
    refine' wpAnyH_take (i:=22) (oi:=⟨some 45,_,_,_,_,_⟩) (v:=undef) rfl (by kernel_rfl) (by kernel_rfl) (by kernel_rfl) (fun _ _ _ h=>h) (Or.inr ⟨by rfl,rfl⟩) hHeld ?_
    try simp only[pu]
    refine' wpAnyH_take (i:=23) (oi:=⟨some 46,_,_,_,_,_⟩) (v:=undef) rfl (by kernel_rfl) (by kernel_rfl) (by kernel_rfl) (fun _ _ _ h=>h) (Or.inr ⟨by rfl,rfl⟩) hHeld ?_
    try simp only[pu]
    refine' wpAnyH_take (i:=24) (oi:=⟨some 47,_,_,_,_,_⟩) (v:=undef) rfl (by kernel_rfl) (by kernel_rfl) (by kernel_rfl) (fun _ _ _ h=>h) (Or.inr ⟨by rfl,rfl⟩) hHeld ?_
    try simp only[pu]
    refine' wpAnyH_take (i:=25) (oi:=⟨some 48,_,_,_,_,_⟩) (v:=undef) rfl (by kernel_rfl) (by kernel_rfl) (by kernel_rfl) (fun _ _ _ h=>h) (Or.inr ⟨by rfl,rfl⟩) hHeld ?_
    try simp only[pu]
    refine' wpAnyH_take (i:=26) (oi:=⟨some 49,_,_,_,_,_⟩) (v:=undef) rfl (by kernel_rfl) (by kernel_rfl) (by kernel_rfl) (fun _ _ _ h=>h) (Or.inr ⟨by rfl,rfl⟩) hHeld ?_
    try simp only[pu]
    refine' wpAnyH_take (i:=27) (oi:=⟨some 50,_,_,_,_,_⟩) (v:=undef) rfl (by kernel_rfl) (by kernel_rfl) (by kernel_rfl) (fun _ _ _ h=>h) (Or.inr ⟨by rfl,rfl⟩) hHeld ?_
    try simp only[pu]
    refine' wpAnyH_take (i:=28) (oi:=⟨some 51,_,_,_,_,_⟩) (v:=undef) rfl (by kernel_rfl) (by kernel_rfl) (by kernel_rfl) (fun _ _ _ h=>h) (Or.inr ⟨by rfl,rfl⟩) hHeld ?_
    try simp only[pu]
    refine' wpAnyH_take (i:=29) (oi:=⟨some 52,_,_,_,_,_⟩) (v:=undef) rfl (by kernel_rfl) (by kernel_rfl) (by kernel_rfl) (fun _ _ _ h=>h) (Or.inr ⟨by rfl,rfl⟩) hHeld ?_
    try simp only[pu]
    refine' wpAnyH_take (i:=30) (oi:=⟨some 53,_,_,_,_,_⟩) (v:=_) rfl (by kernel_rfl) (by kernel_rfl) (by kernel_rfl) (fun _ _ _ h=>h) (Or.inl ⟨by rfl,?_⟩) hHeld ?_
    rotate_left
    ·(intro w' aa;(try dsimp only at aa);go_simp;(try with_reducible rfl))
    try simp only[pu]
    refine wpAnyH_done (by kernel_rfl) ?_ _
    have gC:=J (ay.o.trans hHeld.1);clear hHeld eh;go_wp2_with fail;go_ret;exact⟨false,rfl,⟨(fun h=>by cases h),fun h=>absurd h ar.o⟩,gC.o⟩
   have xb:Hid (Cs t=true):=J (by rw[qc.o];rfl);have ld:=J (fun W hx=>fc.o W hx z);by_cases hz:0<=z/\z<(ns.length:Int);rotate_left
   ·have ar:=J (cT.o hz);rw[decide_eq_false hz]at ld;clear hz;have eh:Hid (∀w1 w2,(fun w':World=>Ext w7 w'/\w'.cell? ⟨nb,0,none⟩=some (.string s)/\w'.cell? ⟨nb,1,none⟩=some (.int .i64 z)) w1->Ext w1 w2->(fun w':World=>Ext w7 w'/\w'.cell? ⟨nb,0,none⟩=some (.string s)/\w'.cell? ⟨nb,1,none⟩=some (.int .i64 z)) w2):=J (fun w1 w2 h hx=>by
     obtain⟨p0,p1,p2⟩:=h;exact⟨p0.trans hx,hx.keep p1,hx.keep p2⟩)
    refine wp_region_held_drew (S:=fun w'=>Ext w7 w'/\w'.cell? ⟨nb,0,none⟩=some (.string s)/\w'.cell? ⟨nb,1,none⟩=some (.int .i64 z)) (by kernel_rfl) (by exact⟨(Ext.refl w7).drew,bX.o.1,bX.o.2⟩) (fun hHeld=> ?_);refine' wpAnyH_take (i:=0) (oi:=⟨some 23,_,_,_,_,_⟩) (v:=_) rfl (by kernel_rfl) (by kernel_rfl) (by kernel_rfl) (fun _ _ _ h=>h) (Or.inl ⟨by rfl,?_⟩) hHeld ?_
    rotate_left
    ·(intro w' aa;(try dsimp only at aa);go_simp;(try with_reducible rfl))
    try simp only[pu]
    refine' wpAnyH_take (i:=1) (oi:=⟨some 24,_,_,_,_,_⟩) (v:=_) rfl (by kernel_rfl) (by kernel_rfl) (by kernel_rfl) (fun _ _ _ h=>h) (Or.inl ⟨by rfl,?_⟩) hHeld ?_
    rotate_left
    ·(intro w' aa;(try dsimp only at aa);go_simp;(try with_reducible rfl))
    try simp only[pu]
    refine wpAnyH_ready (rs:=[2]) (by kernel_rfl) (by simp) ?_
    refine AllReadyH.cons (i:=2) rfl (fun K hK=> ?_) AllReadyH.nil;go_simp
    (go_at_call 94;refine(kD.o _).mono ?_;rintro e w8 ⟨rfl,rfl⟩)
    try go_wp2_with fail
    refine hK.out _ _ ?_ (fun hHeld=> ?_)
    ·exact hHeld
    clear hK K;try simp only[pu]
    refine' wpAnyH_take (i:=3) (oi:=⟨some 26,_,_,_,_,_⟩) (v:=_) rfl (by kernel_rfl) (by kernel_rfl) (by kernel_rfl) (fun _ _ _ h=>h) (Or.inl ⟨by rfl,?_⟩) hHeld ?_
    rotate_left
    ·(intro w' aa;(try dsimp only at aa);go_simp;(try with_reducible rfl))
    try simp only[pu]
    refine' wpAnyH_take (i:=4) (oi:=⟨some 27,_,_,_,_,_⟩) (v:=_) rfl (by kernel_rfl) (by kernel_rfl) (by kernel_rfl) (fun _ _ _ h=>h) (Or.inl ⟨by rfl,?_⟩) hHeld ?_
    rotate_left
    ·(intro w' aa;(try dsimp only at aa);go_simp;(try with_reducible rfl))
    try simp only[pu]
    refine' wpAnyH_take (i:=5) (oi:=⟨some 28,_,_,_,_,_⟩) (v:=_) rfl (by kernel_rfl) (by kernel_rfl) (by kernel_rfl) (fun _ _ _ h=>h) (Or.inl ⟨by rfl,?_⟩) hHeld ?_
    rotate_left
    ·(intro w' aa;(try dsimp only at aa);go_simp;(try with_reducible rfl))
    try simp only[pu]
    refine' wpAnyH_take (i:=6) (oi:=⟨some 29,_,_,_,_,_⟩) (v:=_) rfl (by kernel_rfl) (by kernel_rfl) (by kernel_rfl) (fun _ _ _ h=>h) (Or.inl ⟨by rfl,?_⟩) hHeld ?_
    rotate_left
    ·(intro w' aa;(try dsimp only at aa);go_simp;(try with_reducible rfl))
    try simp only[pu]
    refine wpAnyH_ready (rs:=[7]) (by kernel_rfl) (by simp) ?_
    refine AllReadyH.cons (i:=7) rfl (fun K hK=> ?_) AllReadyH.nil;go_simp
    (go_at_call 95;refine(iH.o _).mono ?_;rintro e w9 ⟨rfl,rfl⟩)
    try go_wp2_with fail
    refine hK.out _ _ ?_ (fun hHeld=> ?_)
    ·exact hHeld
    clear hK K;try simp only[pu]
    refine' wpAnyH_take (i:=8) (oi:=⟨some 31,_,_,_,_,_⟩) (v:=_) rfl (by kernel_rfl) (by kernel_rfl) (by kernel_rfl) (fun _ _ _ h=>h) (Or.inl ⟨by rfl,?_⟩) hHeld ?_
    rotate_left
    ·(intro w' aa;(try dsimp only at aa);go_simp;(try with_reducible rfl))
    try simp only[pu]
    refine' wpAnyH_take (i:=9) (oi:=⟨some 32,_,_,_,_,_⟩) (v:=_) rfl (by kernel_rfl) (by kernel_rfl) (by kernel_rfl) (fun _ _ _ h=>h) (Or.inl ⟨by rfl,?_⟩) hHeld ?_
    rotate_left
    ·(intro w' aa;(try dsimp only at aa);go_simp;(try with_reducible rfl))
    try simp only[pu]
    refine' wpAnyH_take (i:=10) (oi:=⟨some 33,_,_,_,_,_⟩) (v:=_) rfl (by kernel_rfl) (by kernel_rfl) (by kernel_rfl) (fun _ _ _ h=>h) (Or.inl ⟨by rfl,?_⟩) hHeld ?_
    rotate_left
    ·(intro w' aa;(try dsimp only at aa);go_simp;(try with_reducible rfl))
    try simp only[pu]
    refine' wpAnyH_take (i:=11) (oi:=⟨some 34,_,_,_,_,_⟩) (v:=_) rfl (by kernel_rfl) (by kernel_rfl) (by kernel_rfl) (fun _ _ _ h=>h) (Or.inl ⟨by rfl,?_⟩) hHeld ?_
    rotate_left
    ·(intro w' aa;(try dsimp only at aa);go_simp;(try with_reducible rfl))
    try simp only[pu]
    refine' wpAnyH_take (i:=12) (oi:=⟨some 35,_,_,_,_,_⟩) (v:=_) rfl (by kernel_rfl) (by kernel_rfl) (by kernel_rfl) (fun _ _ _ h=>h) (Or.inl ⟨by rfl,?_⟩) hHeld ?_
    rotate_left
    ·(intro w' aa;(try dsimp only at aa);go_simp;(try with_reducible rfl))
    try simp only[pu]
    refine wpAnyH_ready (rs:=[13]) (by kernel_rfl) (by simp) ?_
    refine AllReadyH.cons (i:=13) rfl (fun K hK=> ?_) AllReadyH.nil;go_simp
    (go_at_call 96;refine(ld.o _ (ay.o.trans hHeld.1)).mono ?_;rintro e de ⟨rfl,cX⟩)
    try go_wp2_with fail
    refine hK.out _ _ ?_ (fun hHeld=> ?_)
    ·exact eh.o _ _ hHeld cX
    clear hK K;try simp only[pu]
    refine' wpAnyH_take (i:=14) (oi:=⟨some 37,_,_,_,_,_⟩) (v:=_) rfl (by kernel_rfl) (by kernel_rfl) (by kernel_rfl) (fun _ _ _ h=>h) (Or.inl ⟨by rfl,?_⟩) hHeld ?_
    rotate_left
    ·(intro w' aa;(try dsimp only at aa);go_simp;(try with_reducible rfl))
    try simp only[pu]
    refine' wpAnyH_take (i:=15) (oi:=⟨some 38,_,_,_,_,_⟩) (v:=_) rfl (by kernel_rfl) (by kernel_rfl) (by kernel_rfl) (fun _ _ _ h=>h) (Or.inl ⟨by rfl,?_⟩) hHeld ?_
    rotate_left
    ·(intro w' aa;(try dsimp only at aa);go_simp;(try with_reducible rfl))
    try simp only[pu]
    refine' wpAnyH_take (i:=16) (oi:=⟨some 39,_,_,_,_,_⟩) (v:=_) rfl (by kernel_rfl) (by kernel_rfl) (by kernel_rfl) (fun _ _ _ h=>h) (Or.inl ⟨by rfl,?_⟩) hHeld ?_
    rotate_left
    ·(intro w' aa;(try dsimp only at aa);go_simp;(try with_reducible rfl))
    try simp only[pu]
    refine' wpAnyH_take (i:=17) (oi:=⟨some 40,_,_,_,_,_⟩) (v:=undef) rfl (by kernel_rfl) (by kernel_rfl) (by kernel_rfl) (fun _ _ _ h=>h) (Or.inr ⟨by rfl,rfl⟩) hHeld ?_
    try simp only[pu]
    refine' wpAnyH_take (i:=18) (oi:=⟨some 41,_,_,_,_,_⟩) (v:=undef) rfl (by kernel_rfl) (by kernel_rfl) (by kernel_rfl) (fun _ _ _ h=>h) (Or.inr ⟨by rfl,rfl⟩) hHeld ?_
    try simp only[pu]
    refine' wpAnyH_take (i:=19) (oi:=⟨some 42,_,_,_,_,_⟩) (v:=undef) rfl (by kernel_rfl) (by kernel_rfl) (by kernel_rfl) (fun _ _ _ h=>h) (Or.inr ⟨by rfl,rfl⟩) hHeld ?_
    try simp only[pu]
    refine' wpAnyH_take (i:=20) (oi:=⟨some 43,_,_,_,_,_⟩) (v:=undef) rfl (by kernel_rfl) (by kernel_rfl) (by kernel_rfl) (fun _ _ _ h=>h) (Or.inr ⟨by rfl,rfl⟩) hHeld ?_
    try simp only[pu]
    refine' wpAnyH_take (i:=21) (oi:=⟨some 44,_,_,_,_,_⟩) (v:=undef) rfl (by kernel_rfl) (by kernel_rfl) (by kernel_rfl) (fun _ _ _ h=>h) (Or.inr ⟨by rfl,rfl⟩) hHeld ?_
    try simp only[pu]
    refine' wpAnyH_take (i:=22) (oi:=⟨some 45,_,_,_,_,_⟩) (v:=undef) rfl (by kernel_rfl) (by kernel_rfl) (by kernel_rfl) (fun _ _ _ h=>h) (Or.inr ⟨by rfl,rfl⟩) hHeld ?_
    try simp only[pu]
    refine' wpAnyH_take (i:=23) (oi:=⟨some 46,_,_,_,_,_⟩) (v:=undef) rfl (by kernel_rfl) (by kernel_rfl) (by kernel_rfl) (fun _ _ _ h=>h) (Or.inr ⟨by rfl,rfl⟩) hHeld ?_
    try simp only[pu]
    refine' wpAnyH_take (i:=24) (oi:=⟨some 47,_,_,_,_,_⟩) (v:=undef) rfl (by kernel_rfl) (by kernel_rfl) (by kernel_rfl) (fun _ _ _ h=>h) (Or.inr ⟨by rfl,rfl⟩) hHeld ?_
    try simp only[pu]
    refine' wpAnyH_take (i:=25) (oi:=⟨some 48,_,_,_,_,_⟩) (v:=undef) rfl (by kernel_rfl) (by kernel_rfl) (by kernel_rfl) (fun _ _ _ h=>h) (Or.inr ⟨by rfl,rfl⟩) hHeld ?_
    try simp only[pu]
    refine' wpAnyH_take (i:=26) (oi:=⟨some 49,_,_,_,_,_⟩) (v:=undef) rfl (by kernel_rfl) (by kernel_rfl) (by kernel_rfl) (fun _ _ _ h=>h) (Or.inr ⟨by rfl,rfl⟩) hHeld ?_
    try simp only[pu]
    refine' wpAnyH_take (i:=27) (oi:=⟨some 50,_,_,_,_,_⟩) (v:=undef) rfl (by kernel_rfl) (by kernel_rfl) (by kernel_rfl) (fun _ _ _ h=>h) (Or.inr ⟨by rfl,rfl⟩) hHeld ?_
    try simp only[pu]
    refine' wpAnyH_take (i:=28) (oi:=⟨some 51,_,_,_,_,_⟩) (v:=undef) rfl (by kernel_rfl) (by kernel_rfl) (by kernel_rfl) (fun _ _ _ h=>h) (Or.inr ⟨by rfl,rfl⟩) hHeld ?_
    try simp only[pu]
    refine' wpAnyH_take (i:=29) (oi:=⟨some 52,_,_,_,_,_⟩) (v:=undef) rfl (by kernel_rfl) (by kernel_rfl) (by kernel_rfl) (fun _ _ _ h=>h) (Or.inr ⟨by rfl,rfl⟩) hHeld ?_
    try simp only[pu]
    refine' wpAnyH_take (i:=30) (oi:=⟨some 53,_,_,_,_,_⟩) (v:=_) rfl (by kernel_rfl) (by kernel_rfl) (by kernel_rfl) (fun _ _ _ h=>h) (Or.inl ⟨by rfl,?_⟩) hHeld ?_
    rotate_left
    ·(intro w' aa;(try dsimp only at aa);go_simp;(try with_reducible rfl))
    try simp only[pu]
    refine wpAnyH_done (by kernel_rfl) ?_ _
    have gC:=J (ay.o.trans hHeld.1);clear hHeld eh;go_wp2_with fail;go_ret;exact⟨false,rfl,⟨(fun h=>by cases h),fun h=>absurd h ar.o⟩,gC.o⟩
   rw[decide_eq_true hz]at ld;have tZ:=J hz;clear hz;rcases eO.o with rfl|⟨p,rfl,hp,hpc,dS,dp⟩
   ·have iv:=J (aF.o xb.o tZ.o (Vp.o rfl));have o9:decide (((0:Nat):Int)>0)=false:=by decide
    have eh:Hid (∀w1 w2,(fun w':World=>Ext w7 w'/\w'.cell? ⟨nb,0,none⟩=some (.string s)/\w'.cell? ⟨nb,1,none⟩=some (.int .i64 z)) w1->Ext w1 w2->(fun w':World=>Ext w7 w'/\w'.cell? ⟨nb,0,none⟩=some (.string s)/\w'.cell? ⟨nb,1,none⟩=some (.int .i64 z)) w2):=J (fun w1 w2 h hx=>by
     obtain⟨p0,p1,p2⟩:=h;exact⟨p0.trans hx,hx.keep p1,hx.keep p2⟩)
    refine wp_region_held_drew (S:=fun w'=>Ext w7 w'/\w'.cell? ⟨nb,0,none⟩=some (.string s)/\w'.cell? ⟨nb,1,none⟩=some (.int .i64 z)) (by kernel_rfl) (by exact⟨(Ext.refl w7).drew,bX.o.1,bX.o.2⟩) (fun hHeld=> ?_);refine' wpAnyH_take (i:=0) (oi:=⟨some 23,_,_,_,_,_⟩) (v:=_) rfl (by kernel_rfl) (by kernel_rfl) (by kernel_rfl) (fun _ _ _ h=>h) (Or.inl ⟨by rfl,?_⟩) hHeld ?_
    rotate_left
    ·(intro w' aa;(try dsimp only at aa);go_simp;(try with_reducible rfl))
    try simp only[pu]
    refine' wpAnyH_take (i:=1) (oi:=⟨some 24,_,_,_,_,_⟩) (v:=_) rfl (by kernel_rfl) (by kernel_rfl) (by kernel_rfl) (fun _ _ _ h=>h) (Or.inl ⟨by rfl,?_⟩) hHeld ?_
    rotate_left
    ·(intro w' aa;(try dsimp only at aa);go_simp;(try with_reducible rfl))
    try simp only[pu]
    refine wpAnyH_ready (rs:=[2]) (by kernel_rfl) (by simp) ?_
    refine AllReadyH.cons (i:=2) rfl (fun K hK=> ?_) AllReadyH.nil;go_simp
    (go_at_call 94;refine(kD.o _).mono ?_;rintro e w8 ⟨rfl,rfl⟩)
    try go_wp2_with fail
    refine hK.out _ _ ?_ (fun hHeld=> ?_)
    ·exact hHeld
    clear hK K;try simp only[pu]
    refine' wpAnyH_take (i:=3) (oi:=⟨some 26,_,_,_,_,_⟩) (v:=_) rfl (by kernel_rfl) (by kernel_rfl) (by kernel_rfl) (fun _ _ _ h=>h) (Or.inl ⟨by rfl,?_⟩) hHeld ?_
    rotate_left
    ·(intro w' aa;(try dsimp only at aa);go_simp;(try with_reducible rfl))
    try simp only[pu]
    refine' wpAnyH_take (i:=4) (oi:=⟨some 27,_,_,_,_,_⟩) (v:=_) rfl (by kernel_rfl) (by kernel_rfl) (by kernel_rfl) (fun _ _ _ h=>h) (Or.inl ⟨by rfl,?_⟩) hHeld ?_
    rotate_left
    ·(intro w' aa;(try dsimp only at aa);go_simp;(try with_reducible rfl))
    try simp only[pu]
    refine' wpAnyH_take (i:=5) (oi:=⟨some 28,_,_,_,_,_⟩) (v:=_) rfl (by kernel_rfl) (by kernel_rfl) (by kernel_rfl) (fun _ _ _ h=>h) (Or.inl ⟨by rfl,?_⟩) hHeld ?_
    rotate_left
    ·(intro w' aa;(try dsimp only at aa);go_simp;(try with_reducible rfl))
    try simp only[pu]
    refine' wpAnyH_take (i:=6) (oi:=⟨some 29,_,_,_,_,_⟩) (v:=_) rfl (by kernel_rfl) (by kernel_rfl) (by kernel_rfl) (fun _ _ _ h=>h) (Or.inl ⟨by rfl,?_⟩) hHeld ?_
    rotate_left
    ·(intro w' aa;(try dsimp only at aa);go_simp;(try with_reducible rfl))
    try simp only[pu]
    refine wpAnyH_ready (rs:=[7]) (by kernel_rfl) (by simp) ?_
    refine AllReadyH.cons (i:=7) rfl (fun K hK=> ?_) AllReadyH.nil;go_simp
    (go_at_call 95;refine(iH.o _).mono ?_;rintro e w9 ⟨rfl,rfl⟩)
    try go_wp2_with fail
    refine hK.out _ _ ?_ (fun hHeld=> ?_)
    ·exact hHeld
    clear hK K;try simp only[pu]
    refine' wpAnyH_take (i:=8) (oi:=⟨some 31,_,_,_,_,_⟩) (v:=_) rfl (by kernel_rfl) (by kernel_rfl) (by kernel_rfl) (fun _ _ _ h=>h) (Or.inl ⟨by rfl,?_⟩) hHeld ?_
    rotate_left
    ·(intro w' aa;(try dsimp only at aa);go_simp;(try with_reducible rfl))
    try simp only[pu]
    refine' wpAnyH_take (i:=9) (oi:=⟨some 32,_,_,_,_,_⟩) (v:=_) rfl (by kernel_rfl) (by kernel_rfl) (by kernel_rfl) (fun _ _ _ h=>h) (Or.inl ⟨by rfl,?_⟩) hHeld ?_
    rotate_left
    ·(intro w' aa;(try dsimp only at aa);go_simp;(try with_reducible rfl))
    try simp only[pu]
    refine' wpAnyH_take (i:=10) (oi:=⟨some 33,_,_,_,_,_⟩) (v:=_) rfl (by kernel_rfl) (by kernel_rfl) (by kernel_rfl) (fun _ _ _ h=>h) (Or.inl ⟨by rfl,?_⟩) hHeld ?_
    rotate_left
    ·(intro w' aa;(try dsimp only at aa);go_simp;(try with_reducible rfl))
    try simp only[pu]
    refine' wpAnyH_take (i:=11) (oi:=⟨some 34,_,_,_,_,_⟩) (v:=_) rfl (by kernel_rfl) (by kernel_rfl) (by kernel_rfl) (fun _ _ _ h=>h) (Or.inl ⟨by rfl,?_⟩) hHeld ?_
    rotate_left
    ·(intro w' aa;(try dsimp only at aa);go_simp;(try with_reducible rfl))
    try simp only[pu]
    refine' wpAnyH_take (i:=12) (oi:=⟨some 35,_,_,_,_,_⟩) (v:=_) rfl (by kernel_rfl) (by kernel_rfl) (by kernel_rfl) (fun _ _ _ h=>h) (Or.inl ⟨by rfl,?_⟩) hHeld ?_
    rotate_left
    ·(intro w' aa;(try dsimp only at aa);go_simp;(try with_reducible rfl))
    try simp only[pu]
    refine wpAnyH_ready (rs:=[13]) (by kernel_rfl) (by simp) ?_
    refine AllReadyH.cons (i:=13) rfl (fun K hK=> ?_) AllReadyH.nil;go_simp
    (go_at_call 96;refine(ld.o _ (ay.o.trans hHeld.1)).mono ?_;rintro e de ⟨rfl,cX⟩)
    try go_wp2_with fail
    refine hK.out _ _ ?_ (fun hHeld=> ?_)
    ·exact eh.o _ _ hHeld cX
    clear hK K;try simp only[pu]
    refine' wpAnyH_take (i:=14) (oi:=⟨some 37,_,_,_,_,_⟩) (v:=_) rfl (by kernel_rfl) (by kernel_rfl) (by kernel_rfl) (fun _ _ _ h=>h) (Or.inl ⟨by rfl,?_⟩) hHeld ?_
    rotate_left
    ·(intro w' aa;(try dsimp only at aa);go_simp;(try with_reducible rfl))
    try simp only[pu]
    refine' wpAnyH_take (i:=15) (oi:=⟨some 38,_,_,_,_,_⟩) (v:=_) rfl (by kernel_rfl) (by kernel_rfl) (by kernel_rfl) (fun _ _ _ h=>h) (Or.inl ⟨by rfl,?_⟩) hHeld ?_
    rotate_left
    ·(intro w' aa;(try dsimp only at aa);go_simp;(try with_reducible rfl))
    try simp only[pu]
    refine' wpAnyH_take (i:=16) (oi:=⟨some 39,_,_,_,_,_⟩) (v:=_) rfl (by kernel_rfl) (by kernel_rfl) (by kernel_rfl) (fun _ _ _ h=>h) (Or.inl ⟨by rfl,?_⟩) hHeld ?_
    rotate_left
    ·(intro w' aa;(try dsimp only at aa);go_simp;(try with_reducible rfl))
    try simp only[pu]
    refine' wpAnyH_take (i:=17) (oi:=⟨some 40,_,_,_,_,_⟩) (v:=_) rfl (by kernel_rfl) (by kernel_rfl) (by kernel_rfl) (fun _ _ _ h=>h) (Or.inl ⟨by rfl,?_⟩) hHeld ?_
    rotate_left
    ·(intro w' aa;(try dsimp only at aa);go_simp;(try with_reducible rfl))
    try simp only[pu]
    refine' wpAnyH_take (i:=18) (oi:=⟨some 41,_,_,_,_,_⟩) (v:=_) rfl (by kernel_rfl) (by kernel_rfl) (by kernel_rfl) (fun _ _ _ h=>h) (Or.inl ⟨by rfl,?_⟩) hHeld ?_
    rotate_left
    ·(intro w' aa;(try dsimp only at aa);go_simp;(try with_reducible rfl))
    try simp only[pu]
    refine' wpAnyH_take (i:=19) (oi:=⟨some 42,_,_,_,_,_⟩) (v:=_) rfl (by kernel_rfl) (by kernel_rfl) (by kernel_rfl) (fun _ _ _ h=>h) (Or.inl ⟨by rfl,?_⟩) hHeld ?_
    rotate_left
    ·(intro w' aa;(try dsimp only at aa);go_simp;(try with_reducible rfl))
    try simp only[pu]
    refine' wpAnyH_take (i:=20) (oi:=⟨some 43,_,_,_,_,_⟩) (v:=undef) rfl (by kernel_rfl) (by kernel_rfl) (by kernel_rfl) (fun _ _ _ h=>h) (Or.inr ⟨by rfl,rfl⟩) hHeld ?_
    try simp only[pu]
    refine' wpAnyH_take (i:=21) (oi:=⟨some 44,_,_,_,_,_⟩) (v:=undef) rfl (by kernel_rfl) (by kernel_rfl) (by kernel_rfl) (fun _ _ _ h=>h) (Or.inr ⟨by rfl,rfl⟩) hHeld ?_
    try simp only[pu]
    refine' wpAnyH_take (i:=22) (oi:=⟨some 45,_,_,_,_,_⟩) (v:=undef) rfl (by kernel_rfl) (by kernel_rfl) (by kernel_rfl) (fun _ _ _ h=>h) (Or.inr ⟨by rfl,rfl⟩) hHeld ?_
    try simp only[pu]
    refine' wpAnyH_take (i:=23) (oi:=⟨some 46,_,_,_,_,_⟩) (v:=undef) rfl (by kernel_rfl) (by kernel_rfl) (by kernel_rfl) (fun _ _ _ h=>h) (Or.inr ⟨by rfl,rfl⟩) hHeld ?_
    try simp only[pu]
    refine' wpAnyH_take (i:=24) (oi:=⟨some 47,_,_,_,_,_⟩) (v:=undef) rfl (by kernel_rfl) (by kernel_rfl) (by kernel_rfl) (fun _ _ _ h=>h) (Or.inr ⟨by rfl,rfl⟩) hHeld ?_
    try simp only[pu]
    refine' wpAnyH_take (i:=25) (oi:=⟨some 48,_,_,_,_,_⟩) (v:=undef) rfl (by kernel_rfl) (by kernel_rfl) (by kernel_rfl) (fun _ _ _ h=>h) (Or.inr ⟨by rfl,rfl⟩) hHeld ?_
    try simp only[pu]
    refine' wpAnyH_take (i:=26) (oi:=⟨some 49,_,_,_,_,_⟩) (v:=undef) rfl (by kernel_rfl) (by kernel_rfl) (by kernel_rfl) (fun _ _ _ h=>h) (Or.inr ⟨by rfl,rfl⟩) hHeld ?_
    try simp only[pu]
    refine' wpAnyH_take (i:=27) (oi:=⟨some 50,_,_,_,_,_⟩) (v:=undef) rfl (by kernel_rfl) (by kernel_rfl) (by kernel_rfl) (fun _ _ _ h=>h) (Or.inr ⟨by rfl,rfl⟩) hHeld ?_
    try simp only[pu]
    refine' wpAnyH_take (i:=28) (oi:=⟨some 51,_,_,_,_,_⟩) (v:=undef) rfl (by kernel_rfl) (by kernel_rfl) (by kernel_rfl) (fun _ _ _ h=>h) (Or.inr ⟨by rfl,rfl⟩) hHeld ?_
    try simp only[pu]
    refine' wpAnyH_take (i:=29) (oi:=⟨some 52,_,_,_,_,_⟩) (v:=_) rfl (by kernel_rfl) (by kernel_rfl) (by kernel_rfl) (fun _ _ _ h=>h) (Or.inl ⟨by rfl,?_⟩) hHeld ?_
    rotate_left
    ·(intro w' aa;(try dsimp only at aa);go_simp;(try with_reducible rfl))
    try simp only[pu]
    refine' wpAnyH_take (i:=30) (oi:=⟨some 53,_,_,_,_,_⟩) (v:=_) rfl (by kernel_rfl) (by kernel_rfl) (by kernel_rfl) (fun _ _ _ h=>h) (Or.inl ⟨by rfl,?_⟩) hHeld ?_
    rotate_left
    ·(intro w' aa;(try dsimp only at aa);go_simp;(try with_reducible rfl))
    try simp only[pu]
    refine wpAnyH_done (by kernel_rfl) ?_ _
    have gC:=J (ay.o.trans hHeld.1);clear hHeld eh;go_wp2_with fail;go_roundw
    case rel=>exact⟨0+1,by omega,by go_num,iv.o,gC.o⟩
    case measure=>simp[intOf]<;>omega
   have jZ:=J dS;have k7:=J dp;clear dS dp eO;generalize env[p].1=tp at *;obtain⟨sp,mR⟩:∃sp:ByteArray,str tp= .string sp:=⟨_,rfl⟩;rw[mR]at hpc;have nN:=G5 mR i2.o;have t7:=J hpc;have zh:IntKind.i64.wrap (((p+1:Nat):Int)-1)=(p:Int):=by rw[IntWalk.i64_in _ (by omega)];omega
   have zg:IntKind.i64.wrap ((p:Int)+1-1)=(p:Int):=by rw[IntWalk.i64_in _ (by omega)];omega
   have ze:IntKind.i64.wrap (p:Int)=(p:Int):=IntWalk.i64_in _ (by omega);have hp0:(0:Int)<=(p:Int):=by omega
   have gN:(p:Int)<(n:Int):=by omega
   have jh:decide (((p+1:Nat):Int)>0)=true:=decide_eq_true (by omega);have zN:decide ((p:Int)+1>0)=true:=decide_eq_true (by omega);clear mR hpc hp;by_cases hl:tp<t
   ·have iv:=J (aF.o xb.o tZ.o (jZ.o hl));rw[decide_eq_true hl]at nN;clear hl;have eh:Hid (∀w1 w2,(fun w':World=>Ext w7 w'/\w'.cell? ⟨nb,0,none⟩=some (.string s)/\w'.cell? ⟨nb,1,none⟩=some (.int .i64 z)/\w'.cell? ⟨gb,o+p*2,none⟩=some (.string sp)) w1->Ext w1 w2->(fun w':World=>Ext w7 w'/\w'.cell? ⟨nb,0,none⟩=some (.string s)/\w'.cell? ⟨nb,1,none⟩=some (.int .i64 z)/\w'.cell? ⟨gb,o+p*2,none⟩=some (.string sp)) w2):=J (fun w1 w2 h hx=>by
     obtain⟨p0,p1,p2,p3⟩:=h;exact⟨p0.trans hx,hx.keep p1,hx.keep p2,hx.keep p3⟩)
    refine wp_region_held_drew (S:=fun w'=>Ext w7 w'/\w'.cell? ⟨nb,0,none⟩=some (.string s)/\w'.cell? ⟨nb,1,none⟩=some (.int .i64 z)/\w'.cell? ⟨gb,o+p*2,none⟩=some (.string sp)) (by kernel_rfl) (by exact⟨(Ext.refl w7).drew,bX.o.1,bX.o.2,ay.o.keep t7.o⟩) (fun hHeld=> ?_);refine' wpAnyH_take (i:=0) (oi:=⟨some 23,_,_,_,_,_⟩) (v:=_) rfl (by kernel_rfl) (by kernel_rfl) (by kernel_rfl) (fun _ _ _ h=>h) (Or.inl ⟨by rfl,?_⟩) hHeld ?_
    rotate_left
    ·(intro w' aa;(try dsimp only at aa);go_simp;(try with_reducible rfl))
    try simp only[pu]
    refine' wpAnyH_take (i:=1) (oi:=⟨some 24,_,_,_,_,_⟩) (v:=_) rfl (by kernel_rfl) (by kernel_rfl) (by kernel_rfl) (fun _ _ _ h=>h) (Or.inl ⟨by rfl,?_⟩) hHeld ?_
    rotate_left
    ·(intro w' aa;(try dsimp only at aa);go_simp;(try with_reducible rfl))
    try simp only[pu]
    refine wpAnyH_ready (rs:=[2]) (by kernel_rfl) (by simp) ?_
    refine AllReadyH.cons (i:=2) rfl (fun K hK=> ?_) AllReadyH.nil;go_simp
    (go_at_call 94;refine(kD.o _).mono ?_;rintro e w8 ⟨rfl,rfl⟩)
    try go_wp2_with fail
    refine hK.out _ _ ?_ (fun hHeld=> ?_)
    ·exact hHeld
    clear hK K;try simp only[pu]
    refine' wpAnyH_take (i:=3) (oi:=⟨some 26,_,_,_,_,_⟩) (v:=_) rfl (by kernel_rfl) (by kernel_rfl) (by kernel_rfl) (fun _ _ _ h=>h) (Or.inl ⟨by rfl,?_⟩) hHeld ?_
    rotate_left
    ·(intro w' aa;(try dsimp only at aa);go_simp;(try with_reducible rfl))
    try simp only[pu]
    refine' wpAnyH_take (i:=4) (oi:=⟨some 27,_,_,_,_,_⟩) (v:=_) rfl (by kernel_rfl) (by kernel_rfl) (by kernel_rfl) (fun _ _ _ h=>h) (Or.inl ⟨by rfl,?_⟩) hHeld ?_
    rotate_left
    ·(intro w' aa;(try dsimp only at aa);go_simp;(try with_reducible rfl))
    try simp only[pu]
    refine' wpAnyH_take (i:=5) (oi:=⟨some 28,_,_,_,_,_⟩) (v:=_) rfl (by kernel_rfl) (by kernel_rfl) (by kernel_rfl) (fun _ _ _ h=>h) (Or.inl ⟨by rfl,?_⟩) hHeld ?_
    rotate_left
    ·(intro w' aa;(try dsimp only at aa);go_simp;(try with_reducible rfl))
    try simp only[pu]
    refine' wpAnyH_take (i:=6) (oi:=⟨some 29,_,_,_,_,_⟩) (v:=_) rfl (by kernel_rfl) (by kernel_rfl) (by kernel_rfl) (fun _ _ _ h=>h) (Or.inl ⟨by rfl,?_⟩) hHeld ?_
    rotate_left
    ·(intro w' aa;(try dsimp only at aa);go_simp;(try with_reducible rfl))
    try simp only[pu]
    refine wpAnyH_ready (rs:=[7]) (by kernel_rfl) (by simp) ?_
    refine AllReadyH.cons (i:=7) rfl (fun K hK=> ?_) AllReadyH.nil;go_simp
    (go_at_call 95;refine(iH.o _).mono ?_;rintro e w9 ⟨rfl,rfl⟩)
    try go_wp2_with fail
    refine hK.out _ _ ?_ (fun hHeld=> ?_)
    ·exact hHeld
    clear hK K;try simp only[pu]
    refine' wpAnyH_take (i:=8) (oi:=⟨some 31,_,_,_,_,_⟩) (v:=_) rfl (by kernel_rfl) (by kernel_rfl) (by kernel_rfl) (fun _ _ _ h=>h) (Or.inl ⟨by rfl,?_⟩) hHeld ?_
    rotate_left
    ·(intro w' aa;(try dsimp only at aa);go_simp;(try with_reducible rfl))
    try simp only[pu]
    refine' wpAnyH_take (i:=9) (oi:=⟨some 32,_,_,_,_,_⟩) (v:=_) rfl (by kernel_rfl) (by kernel_rfl) (by kernel_rfl) (fun _ _ _ h=>h) (Or.inl ⟨by rfl,?_⟩) hHeld ?_
    rotate_left
    ·(intro w' aa;(try dsimp only at aa);go_simp;(try with_reducible rfl))
    try simp only[pu]
    refine' wpAnyH_take (i:=10) (oi:=⟨some 33,_,_,_,_,_⟩) (v:=_) rfl (by kernel_rfl) (by kernel_rfl) (by kernel_rfl) (fun _ _ _ h=>h) (Or.inl ⟨by rfl,?_⟩) hHeld ?_
    rotate_left
    ·(intro w' aa;(try dsimp only at aa);go_simp;(try with_reducible rfl))
    try simp only[pu]
    refine' wpAnyH_take (i:=11) (oi:=⟨some 34,_,_,_,_,_⟩) (v:=_) rfl (by kernel_rfl) (by kernel_rfl) (by kernel_rfl) (fun _ _ _ h=>h) (Or.inl ⟨by rfl,?_⟩) hHeld ?_
    rotate_left
    ·(intro w' aa;(try dsimp only at aa);go_simp;(try with_reducible rfl))
    try simp only[pu]
    refine' wpAnyH_take (i:=12) (oi:=⟨some 35,_,_,_,_,_⟩) (v:=_) rfl (by kernel_rfl) (by kernel_rfl) (by kernel_rfl) (fun _ _ _ h=>h) (Or.inl ⟨by rfl,?_⟩) hHeld ?_
    rotate_left
    ·(intro w' aa;(try dsimp only at aa);go_simp;(try with_reducible rfl))
    try simp only[pu]
    refine wpAnyH_ready (rs:=[13]) (by kernel_rfl) (by simp) ?_
    refine AllReadyH.cons (i:=13) rfl (fun K hK=> ?_) AllReadyH.nil;go_simp
    (go_at_call 96;refine(ld.o _ (ay.o.trans hHeld.1)).mono ?_;rintro e de ⟨rfl,cX⟩)
    try go_wp2_with fail
    refine hK.out _ _ ?_ (fun hHeld=> ?_)
    ·exact eh.o _ _ hHeld cX
    clear hK K;try simp only[pu]
    refine' wpAnyH_take (i:=14) (oi:=⟨some 37,_,_,_,_,_⟩) (v:=_) rfl (by kernel_rfl) (by kernel_rfl) (by kernel_rfl) (fun _ _ _ h=>h) (Or.inl ⟨by rfl,?_⟩) hHeld ?_
    rotate_left
    ·(intro w' aa;(try dsimp only at aa);go_simp;(try with_reducible rfl))
    try simp only[pu]
    refine' wpAnyH_take (i:=15) (oi:=⟨some 38,_,_,_,_,_⟩) (v:=_) rfl (by kernel_rfl) (by kernel_rfl) (by kernel_rfl) (fun _ _ _ h=>h) (Or.inl ⟨by rfl,?_⟩) hHeld ?_
    rotate_left
    ·(intro w' aa;(try dsimp only at aa);go_simp;(try with_reducible rfl))
    try simp only[pu]
    refine' wpAnyH_take (i:=16) (oi:=⟨some 39,_,_,_,_,_⟩) (v:=_) rfl (by kernel_rfl) (by kernel_rfl) (by kernel_rfl) (fun _ _ _ h=>h) (Or.inl ⟨by rfl,?_⟩) hHeld ?_
    rotate_left
    ·(intro w' aa;(try dsimp only at aa);go_simp;(try with_reducible rfl))
    try simp only[pu]
    refine' wpAnyH_take (i:=17) (oi:=⟨some 40,_,_,_,_,_⟩) (v:=_) rfl (by kernel_rfl) (by kernel_rfl) (by kernel_rfl) (fun _ _ _ h=>h) (Or.inl ⟨by rfl,?_⟩) hHeld ?_
    rotate_left
    ·(intro w' aa;(try dsimp only at aa);go_simp;(try with_reducible rfl))
    try simp only[pu]
    refine' wpAnyH_take (i:=18) (oi:=⟨some 41,_,_,_,_,_⟩) (v:=_) rfl (by kernel_rfl) (by kernel_rfl) (by kernel_rfl) (fun _ _ _ h=>h) (Or.inl ⟨by rfl,?_⟩) hHeld ?_
    rotate_left
    ·(intro w' aa;(try dsimp only at aa);go_simp;(try with_reducible rfl))
    try simp only[pu]
    refine' wpAnyH_take (i:=19) (oi:=⟨some 42,_,_,_,_,_⟩) (v:=_) rfl (by kernel_rfl) (by kernel_rfl) (by kernel_rfl) (fun _ _ _ h=>h) (Or.inl ⟨by rfl,?_⟩) hHeld ?_
    rotate_left
    ·(intro w' aa;(try dsimp only at aa);go_simp;(try with_reducible rfl))
    try simp only[pu]
    refine' wpAnyH_take (i:=20) (oi:=⟨some 43,_,_,_,_,_⟩) (v:=_) rfl (by kernel_rfl) (by kernel_rfl) (by kernel_rfl) (fun _ _ _ h=>h) (Or.inl ⟨by rfl,?_⟩) hHeld ?_
    rotate_left
    ·(intro w' aa;(try dsimp only at aa);go_simp;(try with_reducible rfl))
    try simp only[pu]
    refine' wpAnyH_take (i:=21) (oi:=⟨some 44,_,_,_,_,_⟩) (v:=_) rfl (by kernel_rfl) (by kernel_rfl) (by kernel_rfl) (fun _ _ _ h=>h) (Or.inl ⟨by rfl,?_⟩) hHeld ?_
    rotate_left
    ·(intro w' aa;(try dsimp only at aa);go_simp;(try with_reducible rfl))
    try simp only[pu]
    refine' wpAnyH_take (i:=22) (oi:=⟨some 45,_,_,_,_,_⟩) (v:=_) rfl (by kernel_rfl) (by kernel_rfl) (by kernel_rfl) (fun _ _ _ h=>h) (Or.inl ⟨by rfl,?_⟩) hHeld ?_
    rotate_left
    ·(intro w' aa;(try dsimp only at aa);go_simp;(try with_reducible rfl))
    try simp only[pu]
    refine' wpAnyH_take (i:=23) (oi:=⟨some 46,_,_,_,_,_⟩) (v:=_) rfl (by kernel_rfl) (by kernel_rfl) (by kernel_rfl) (fun _ _ _ h=>h) (Or.inl ⟨by rfl,?_⟩) hHeld ?_
    rotate_left
    ·(intro w' aa;(try dsimp only at aa);go_simp;(try with_reducible rfl))
    try simp only[pu]
    refine' wpAnyH_take (i:=24) (oi:=⟨some 47,_,_,_,_,_⟩) (v:=_) rfl (by kernel_rfl) (by kernel_rfl) (by kernel_rfl) (fun _ _ _ h=>h) (Or.inl ⟨by rfl,?_⟩) hHeld ?_
    rotate_left
    ·(intro w' aa;(try dsimp only at aa);go_simp;(try with_reducible rfl))
    try simp only[pu]
    refine' wpAnyH_take (i:=25) (oi:=⟨some 48,_,_,_,_,_⟩) (v:=_) rfl (by kernel_rfl) (by kernel_rfl) (by kernel_rfl) (fun _ _ _ h=>h) (Or.inl ⟨by rfl,?_⟩) hHeld ?_
    rotate_left
    ·(intro w' aa;(try dsimp only at aa);go_simp;(try with_reducible rfl))
    try simp only[pu]
    refine' wpAnyH_take (i:=26) (oi:=⟨some 49,_,_,_,_,_⟩) (v:=_) rfl (by kernel_rfl) (by kernel_rfl) (by kernel_rfl) (fun _ _ _ h=>h) (Or.inl ⟨by rfl,?_⟩) hHeld ?_
    rotate_left
    ·(intro w' aa;(try dsimp only at aa);go_simp;(try with_reducible rfl))
    try simp only[pu]
    refine' wpAnyH_take (i:=27) (oi:=⟨some 50,_,_,_,_,_⟩) (v:=_) rfl (by kernel_rfl) (by kernel_rfl) (by kernel_rfl) (fun _ _ _ h=>h) (Or.inl ⟨by rfl,?_⟩) hHeld ?_
    rotate_left
    ·(intro w' aa;(try dsimp only at aa);go_simp;(try with_reducible rfl))
    try simp only[pu]
    refine' wpAnyH_take (i:=28) (oi:=⟨some 51,_,_,_,_,_⟩) (v:=_) rfl (by kernel_rfl) (by kernel_rfl) (by kernel_rfl) (fun _ _ _ h=>h) (Or.inl ⟨by rfl,?_⟩) hHeld ?_
    rotate_left
    ·(intro w' aa;(try dsimp only at aa);go_simp;(try with_reducible rfl))
    try simp only[pu]
    refine' wpAnyH_take (i:=29) (oi:=⟨some 52,_,_,_,_,_⟩) (v:=_) rfl (by kernel_rfl) (by kernel_rfl) (by kernel_rfl) (fun _ _ _ h=>h) (Or.inl ⟨by rfl,?_⟩) hHeld ?_
    rotate_left
    ·(intro w' aa;(try dsimp only at aa);go_simp;(try with_reducible rfl))
    try simp only[pu]
    refine' wpAnyH_take (i:=30) (oi:=⟨some 53,_,_,_,_,_⟩) (v:=_) rfl (by kernel_rfl) (by kernel_rfl) (by kernel_rfl) (fun _ _ _ h=>h) (Or.inl ⟨by rfl,?_⟩) hHeld ?_
    rotate_left
    ·(intro w' aa;(try dsimp only at aa);go_simp;(try with_reducible rfl))
    try simp only[pu]
    refine wpAnyH_done (by kernel_rfl) ?_ _
    have gC:=J (ay.o.trans hHeld.1);clear hHeld eh;go_wp2_with fail;go_roundw
    case rel=>exact⟨(p+1)+1,by omega,by go_num,iv.o,gC.o⟩
    case measure=>simp[intOf]<;>omega
   ·have ar:=J (k7.o hl);rw[decide_eq_false hl]at nN;clear hl;have eh:Hid (∀w1 w2,(fun w':World=>Ext w7 w'/\w'.cell? ⟨nb,0,none⟩=some (.string s)/\w'.cell? ⟨nb,1,none⟩=some (.int .i64 z)/\w'.cell? ⟨gb,o+p*2,none⟩=some (.string sp)) w1->Ext w1 w2->(fun w':World=>Ext w7 w'/\w'.cell? ⟨nb,0,none⟩=some (.string s)/\w'.cell? ⟨nb,1,none⟩=some (.int .i64 z)/\w'.cell? ⟨gb,o+p*2,none⟩=some (.string sp)) w2):=J (fun w1 w2 h hx=>by
     obtain⟨p0,p1,p2,p3⟩:=h;exact⟨p0.trans hx,hx.keep p1,hx.keep p2,hx.keep p3⟩)
    refine wp_region_held_drew (S:=fun w'=>Ext w7 w'/\w'.cell? ⟨nb,0,none⟩=some (.string s)/\w'.cell? ⟨nb,1,none⟩=some (.int .i64 z)/\w'.cell? ⟨gb,o+p*2,none⟩=some (.string sp)) (by kernel_rfl) (by exact⟨(Ext.refl w7).drew,bX.o.1,bX.o.2,ay.o.keep t7.o⟩) (fun hHeld=> ?_);refine' wpAnyH_take (i:=0) (oi:=⟨some 23,_,_,_,_,_⟩) (v:=_) rfl (by kernel_rfl) (by kernel_rfl) (by kernel_rfl) (fun _ _ _ h=>h) (Or.inl ⟨by rfl,?_⟩) hHeld ?_
    rotate_left
    ·(intro w' aa;(try dsimp only at aa);go_simp;(try with_reducible rfl))
    try simp only[pu]
    refine' wpAnyH_take (i:=1) (oi:=⟨some 24,_,_,_,_,_⟩) (v:=_) rfl (by kernel_rfl) (by kernel_rfl) (by kernel_rfl) (fun _ _ _ h=>h) (Or.inl ⟨by rfl,?_⟩) hHeld ?_
    rotate_left
    ·(intro w' aa;(try dsimp only at aa);go_simp;(try with_reducible rfl))
    try simp only[pu]
    refine wpAnyH_ready (rs:=[2]) (by kernel_rfl) (by simp) ?_
    refine AllReadyH.cons (i:=2) rfl (fun K hK=> ?_) AllReadyH.nil;go_simp
    (go_at_call 94;refine(kD.o _).mono ?_;rintro e w8 ⟨rfl,rfl⟩)
    try go_wp2_with fail
    refine hK.out _ _ ?_ (fun hHeld=> ?_)
    ·exact hHeld
    clear hK K;try simp only[pu]
    refine' wpAnyH_take (i:=3) (oi:=⟨some 26,_,_,_,_,_⟩) (v:=_) rfl (by kernel_rfl) (by kernel_rfl) (by kernel_rfl) (fun _ _ _ h=>h) (Or.inl ⟨by rfl,?_⟩) hHeld ?_
    rotate_left
    ·(intro w' aa;(try dsimp only at aa);go_simp;(try with_reducible rfl))
    try simp only[pu]
    refine' wpAnyH_take (i:=4) (oi:=⟨some 27,_,_,_,_,_⟩) (v:=_) rfl (by kernel_rfl) (by kernel_rfl) (by kernel_rfl) (fun _ _ _ h=>h) (Or.inl ⟨by rfl,?_⟩) hHeld ?_
    rotate_left
    ·(intro w' aa;(try dsimp only at aa);go_simp;(try with_reducible rfl))
    try simp only[pu]
    refine' wpAnyH_take (i:=5) (oi:=⟨some 28,_,_,_,_,_⟩) (v:=_) rfl (by kernel_rfl) (by kernel_rfl) (by kernel_rfl) (fun _ _ _ h=>h) (Or.inl ⟨by rfl,?_⟩) hHeld ?_
    rotate_left
    ·(intro w' aa;(try dsimp only at aa);go_simp;(try with_reducible rfl))
    try simp only[pu]
    refine' wpAnyH_take (i:=6) (oi:=⟨some 29,_,_,_,_,_⟩) (v:=_) rfl (by kernel_rfl) (by kernel_rfl) (by kernel_rfl) (fun _ _ _ h=>h) (Or.inl ⟨by rfl,?_⟩) hHeld ?_
    rotate_left
    ·(intro w' aa;(try dsimp only at aa);go_simp;(try with_reducible rfl))
    try simp only[pu]
    refine wpAnyH_ready (rs:=[7]) (by kernel_rfl) (by simp) ?_
    refine AllReadyH.cons (i:=7) rfl (fun K hK=> ?_) AllReadyH.nil;go_simp
    (go_at_call 95;refine(iH.o _).mono ?_;rintro e w9 ⟨rfl,rfl⟩)
    try go_wp2_with fail
    refine hK.out _ _ ?_ (fun hHeld=> ?_)
    ·exact hHeld
    clear hK K;try simp only[pu]
    refine' wpAnyH_take (i:=8) (oi:=⟨some 31,_,_,_,_,_⟩) (v:=_) rfl (by kernel_rfl) (by kernel_rfl) (by kernel_rfl) (fun _ _ _ h=>h) (Or.inl ⟨by rfl,?_⟩) hHeld ?_
    rotate_left
    ·(intro w' aa;(try dsimp only at aa);go_simp;(try with_reducible rfl))
    try simp only[pu]
    refine' wpAnyH_take (i:=9) (oi:=⟨some 32,_,_,_,_,_⟩) (v:=_) rfl (by kernel_rfl) (by kernel_rfl) (by kernel_rfl) (fun _ _ _ h=>h) (Or.inl ⟨by rfl,?_⟩) hHeld ?_
    rotate_left
    ·(intro w' aa;(try dsimp only at aa);go_simp;(try with_reducible rfl))
    try simp only[pu]
    refine' wpAnyH_take (i:=10) (oi:=⟨some 33,_,_,_,_,_⟩) (v:=_) rfl (by kernel_rfl) (by kernel_rfl) (by kernel_rfl) (fun _ _ _ h=>h) (Or.inl ⟨by rfl,?_⟩) hHeld ?_
    rotate_left
    ·(intro w' aa;(try dsimp only at aa);go_simp;(try with_reducible rfl))
    try simp only[pu]
    refine' wpAnyH_take (i:=11) (oi:=⟨some 34,_,_,_,_,_⟩) (v:=_) rfl (by kernel_rfl) (by kernel_rfl) (by kernel_rfl) (fun _ _ _ h=>h) (Or.inl ⟨by rfl,?_⟩) hHeld ?_
    rotate_left
    ·(intro w' aa;(try dsimp only at aa);go_simp;(try with_reducible rfl))
    try simp only[pu]
    refine' wpAnyH_take (i:=12) (oi:=⟨some 35,_,_,_,_,_⟩) (v:=_) rfl (by kernel_rfl) (by kernel_rfl) (by kernel_rfl) (fun _ _ _ h=>h) (Or.inl ⟨by rfl,?_⟩) hHeld ?_
    rotate_left
    ·(intro w' aa;(try dsimp only at aa);go_simp;(try with_reducible rfl))
    try simp only[pu]
    refine wpAnyH_ready (rs:=[13]) (by kernel_rfl) (by simp) ?_
    refine AllReadyH.cons (i:=13) rfl (fun K hK=> ?_) AllReadyH.nil;go_simp
    (go_at_call 96;refine(ld.o _ (ay.o.trans hHeld.1)).mono ?_;rintro e de ⟨rfl,cX⟩)
    try go_wp2_with fail
    refine hK.out _ _ ?_ (fun hHeld=> ?_)
    ·exact eh.o _ _ hHeld cX
    clear hK K;try simp only[pu]
    refine' wpAnyH_take (i:=14) (oi:=⟨some 37,_,_,_,_,_⟩) (v:=_) rfl (by kernel_rfl) (by kernel_rfl) (by kernel_rfl) (fun _ _ _ h=>h) (Or.inl ⟨by rfl,?_⟩) hHeld ?_
    rotate_left
    ·(intro w' aa;(try dsimp only at aa);go_simp;(try with_reducible rfl))
    try simp only[pu]
    refine' wpAnyH_take (i:=15) (oi:=⟨some 38,_,_,_,_,_⟩) (v:=_) rfl (by kernel_rfl) (by kernel_rfl) (by kernel_rfl) (fun _ _ _ h=>h) (Or.inl ⟨by rfl,?_⟩) hHeld ?_
    rotate_left
    ·(intro w' aa;(try dsimp only at aa);go_simp;(try with_reducible rfl))
    try simp only[pu]
    refine' wpAnyH_take (i:=16) (oi:=⟨some 39,_,_,_,_,_⟩) (v:=_) rfl (by kernel_rfl) (by kernel_rfl) (by kernel_rfl) (fun _ _ _ h=>h) (Or.inl ⟨by rfl,?_⟩) hHeld ?_
    rotate_left
    ·(intro w' aa;(try dsimp only at aa);go_simp;(try with_reducible rfl))
    try simp only[pu]
    refine' wpAnyH_take (i:=17) (oi:=⟨some 40,_,_,_,_,_⟩) (v:=_) rfl (by kernel_rfl) (by kernel_rfl) (by kernel_rfl) (fun _ _ _ h=>h) (Or.inl ⟨by rfl,?_⟩) hHeld ?_
    rotate_left
    ·(intro w' aa;(try dsimp only at aa);go_simp;(try with_reducible rfl))
    try simp only[pu]
    refine' wpAnyH_take (i:=18) (oi:=⟨some 41,_,_,_,_,_⟩) (v:=_) rfl (by kernel_rfl) (by kernel_rfl) (by kernel_rfl) (fun _ _ _ h=>h) (Or.inl ⟨by rfl,?_⟩) hHeld ?_
    rotate_left
    ·(intro w' aa;(try dsimp only at aa);go_simp;(try with_reducible rfl))
    try simp only[pu]
    refine' wpAnyH_take (i:=19) (oi:=⟨some 42,_,_,_,_,_⟩) (v:=_) rfl (by kernel_rfl) (by kernel_rfl) (by kernel_rfl) (fun _ _ _ h=>h) (Or.inl ⟨by rfl,?_⟩) hHeld ?_
    rotate_left
    ·(intro w' aa;(try dsimp only at aa);go_simp;(try with_reducible rfl))
    try simp only[pu]
    refine' wpAnyH_take (i:=20) (oi:=⟨some 43,_,_,_,_,_⟩) (v:=_) rfl (by kernel_rfl) (by kernel_rfl) (by kernel_rfl) (fun _ _ _ h=>h) (Or.inl ⟨by rfl,?_⟩) hHeld ?_
    rotate_left
    ·(intro w' aa;(try dsimp only at aa);go_simp;(try with_reducible rfl))
    try simp only[pu]
    refine' wpAnyH_take (i:=21) (oi:=⟨some 44,_,_,_,_,_⟩) (v:=_) rfl (by kernel_rfl) (by kernel_rfl) (by kernel_rfl) (fun _ _ _ h=>h) (Or.inl ⟨by rfl,?_⟩) hHeld ?_
    rotate_left
    ·(intro w' aa;(try dsimp only at aa);go_simp;(try with_reducible rfl))
    try simp only[pu]
    refine' wpAnyH_take (i:=22) (oi:=⟨some 45,_,_,_,_,_⟩) (v:=_) rfl (by kernel_rfl) (by kernel_rfl) (by kernel_rfl) (fun _ _ _ h=>h) (Or.inl ⟨by rfl,?_⟩) hHeld ?_
    rotate_left
    ·(intro w' aa;(try dsimp only at aa);go_simp;(try with_reducible rfl))
    try simp only[pu]
    refine' wpAnyH_take (i:=23) (oi:=⟨some 46,_,_,_,_,_⟩) (v:=_) rfl (by kernel_rfl) (by kernel_rfl) (by kernel_rfl) (fun _ _ _ h=>h) (Or.inl ⟨by rfl,?_⟩) hHeld ?_
    rotate_left
    ·(intro w' aa;(try dsimp only at aa);go_simp;(try with_reducible rfl))
    try simp only[pu]
    refine' wpAnyH_take (i:=24) (oi:=⟨some 47,_,_,_,_,_⟩) (v:=_) rfl (by kernel_rfl) (by kernel_rfl) (by kernel_rfl) (fun _ _ _ h=>h) (Or.inl ⟨by rfl,?_⟩) hHeld ?_
    rotate_left
    ·(intro w' aa;(try dsimp only at aa);go_simp;(try with_reducible rfl))
    try simp only[pu]
    refine' wpAnyH_take (i:=25) (oi:=⟨some 48,_,_,_,_,_⟩) (v:=_) rfl (by kernel_rfl) (by kernel_rfl) (by kernel_rfl) (fun _ _ _ h=>h) (Or.inl ⟨by rfl,?_⟩) hHeld ?_
    rotate_left
    ·(intro w' aa;(try dsimp only at aa);go_simp;(try with_reducible rfl))
    try simp only[pu]
    refine' wpAnyH_take (i:=26) (oi:=⟨some 49,_,_,_,_,_⟩) (v:=_) rfl (by kernel_rfl) (by kernel_rfl) (by kernel_rfl) (fun _ _ _ h=>h) (Or.inl ⟨by rfl,?_⟩) hHeld ?_
    rotate_left
    ·(intro w' aa;(try dsimp only at aa);go_simp;(try with_reducible rfl))
    try simp only[pu]
    refine' wpAnyH_take (i:=27) (oi:=⟨some 50,_,_,_,_,_⟩) (v:=_) rfl (by kernel_rfl) (by kernel_rfl) (by kernel_rfl) (fun _ _ _ h=>h) (Or.inl ⟨by rfl,?_⟩) hHeld ?_
    rotate_left
    ·(intro w' aa;(try dsimp only at aa);go_simp;(try with_reducible rfl))
    try simp only[pu]
    refine' wpAnyH_take (i:=28) (oi:=⟨some 51,_,_,_,_,_⟩) (v:=_) rfl (by kernel_rfl) (by kernel_rfl) (by kernel_rfl) (fun _ _ _ h=>h) (Or.inl ⟨by rfl,?_⟩) hHeld ?_
    rotate_left
    ·(intro w' aa;(try dsimp only at aa);go_simp;(try with_reducible rfl))
    try simp only[pu]
    refine' wpAnyH_take (i:=29) (oi:=⟨some 52,_,_,_,_,_⟩) (v:=_) rfl (by kernel_rfl) (by kernel_rfl) (by kernel_rfl) (fun _ _ _ h=>h) (Or.inl ⟨by rfl,?_⟩) hHeld ?_
    rotate_left
    ·(intro w' aa;(try dsimp only at aa);go_simp;(try with_reducible rfl))
    try simp only[pu]
    refine' wpAnyH_take (i:=30) (oi:=⟨some 53,_,_,_,_,_⟩) (v:=_) rfl (by kernel_rfl) (by kernel_rfl) (by kernel_rfl) (fun _ _ _ h=>h) (Or.inl ⟨by rfl,?_⟩) hHeld ?_
    rotate_left
    ·(intro w' aa;(try dsimp only at aa);go_simp;(try with_reducible rfl))
    try simp only[pu]
    refine wpAnyH_done (by kernel_rfl) ?_ _
    have gC:=J (ay.o.trans hHeld.1);clear hHeld eh;go_wp2_with fail;go_ret;exact⟨false,rfl,⟨(fun h=>by cases h),fun h=>absurd h ar.o⟩,gC.o⟩
  ·obtain rfl:k=n:=by omega
   have cD:=J (HS.o.ok (by rw[<-HN.o];exact Nat.le_refl _) tr.o);have aQ:=J (EJ wr _ env (lk.o.ext hx) (by rw[<-HN.o];omega) eD.o);clear hx HS fc;go_wp2_with fail;refine aQ.o.mono ?_
   rintro e w2 ⟨bm,rfl,ea,aX,au⟩;have aq:=J (HX.o.trans au);have aP:=J aX;have tC:=J (AS.lt aX);clear ea aX au aQ HX;go_wp2_with fail;go_loopw [9,10,11,12,59] (fun _ _ _ _ nj wr=>∃j:Nat,j<=k/\nj= .int .i64 (j:Int)/\Fy ns env j/\Ext w2 wr) (fun _ _ _ _ nj _=>k-(intOf nj).toNat)
   case atStart=>exact⟨0,Nat.zero_le _,rfl,Fy.start ns env,Ext.refl w2⟩
   case round=>
    obtain⟨j,hj,rfl,hf,hx⟩:=hrel;have HF:=J hf;have HX:=J hx;clear hf;generalize wr=wa at *;by_cases hlt:j<k
    ·have iZ:j<env.length:=by rw[<-HN.o];exact hlt
     obtain⟨gb,o,rfl,bO,hc⟩:=bH.o (by rw[<-HN.o];omega);obtain⟨p0,p1⟩:=hc j iZ;rw[<-(aq.o.trans hx).cell bO]at p0 p1;have al:gb<wa.heap.size:=Nat.lt_of_lt_of_le bO (aq.o.trans hx).size;have o3:(0:Int)<=(j:Int):=by omega
     have oZ:(j:Int)<(k:Int):=by omega
     have yQ:IntKind.i64.wrap ((j:Int)+1)=(j:Int)+1:=IntWalk.i64_in _ (by omega);have aF:=J (fun h1 h2=>HF.o.step iZ h1 h2);have aQ:=cD.o.node _ (List.getElem_mem iZ);have cT:Hid (AO ns env->B8 ns env env[j].2.toNat/\¬B2 ns env env[j].2.toNat env[j].1):=J (fun h=>⟨h.bound _ (List.getElem_mem iZ),h.free _ (List.getElem_mem iZ)⟩);clear hc hx;generalize env[j]=y at *;clear iZ;obtain⟨t,z⟩:=y;simp only at p0 p1 aF aQ cT;have xa:=J aQ;obtain⟨s,hs⟩:∃s:ByteArray,str t= .string s:=⟨_,rfl⟩;rw[hs]at p0;have i2:=J hs;clear hs aQ;go_upto_region 13 with fail;have dx:=Blk.new wa 62 #[.string s,.int .i64 z];have bq:=(Ext.refl wa).alloc (.cells #[.string s,.int .i64 z] 62);generalize wa.alloc (.cells #[.string s,.int .i64 z] 62)=w7 at *;generalize wa.heap.size=nb at *;obtain⟨q0,q1⟩:=dx.twoB;have ay:=J (HX.o.trans bq);have bX:=J dx;have bG:=J (Dl B g b w7 ns nv (HG.o.keep (aq.o.trans ay.o)) z);unfold CF at bG;clear dx bq p0 p1 al;go_wp2_with fail;refine bG.o.mono ?_
     rintro e w3 ⟨v3,l,rfl,_,eu,_,ae,lw⟩;have aj:=J (ay.o.trans ae);have aD:=J (AS.ext aP.o aj.o);have bE:=J (bX.o.ext ae);obtain⟨hl2,fS⟩:=AQ.texts HG.o.ok eu;have zI:=HG.o.few;have mu:=J (GD B g b w3 ns nv (HG.o.keep (aq.o.trans aj.o)) bm _ _ aD.o _ v3 l lw (by omega) (fun t ht=>by have:=BM HG.o.ok t (fS t ht);omega) (AX ns z) (AX.mem eu));unfold F1 at mu;obtain⟨A3,c3,rfl⟩:=lw.shape;clear eu ae lw hl2 fS bG q0 q1;go_wp2_with fail;refine mu.o.mono ?_
     rintro e w4 ⟨sb,c4,rfl,hsb,mh,vI,aR⟩;have aE:=J (aj.o.trans aR);have eJ:=J (AS.ext aD.o aR);have ei:=J (bE.o.ext aR);obtain⟨w5,UD,jC,nF,hx5,xH⟩:=mh.range;have bg:=J (aE.o.trans hx5);have dP:=J (AS.ext eJ.o hx5);have en:=J (ei.o.ext hx5);have bW:=J nF;obtain⟨rb,jF⟩:∃rb,rb=w4.heap.size:=⟨_,rfl⟩;have ki:Hid (bm<rb):=J (by rw[jF];exact AS.lt eJ.o);have U7:Hid (nb<rb):=J (by rw[jF];exact ei.o.lt);have kZ:Hid (w2.heap.size<=rb):=J (by have:=aE.o.size;omega);rw[<-jF]at jC bW;have Vq:=J (AX.dep cD.o xa.o.1 xa.o.2);generalize C0 ns (BW env) (AX ns z)=SS at *;clear hsb mh aR nF hx5 xH jF mu aD bE eJ ei;go_wp2_with fail;clear jC;go_loopw [10,11,12] (fun _ _ _ wr=>∃L cnt,RgS wr sb rb c4 SS L cnt/\(∀t',SS t'->L t'\/(0<=Ao env t'/\t'≠t))/\D7 wr bm env.length (BW env)/\Blk wr nb 62 #[.string s,.int .i64 z]/\Ext w2 wr) (fun _ _ _ wr=>wr.rangeLeft sb rb)
     case atStart=>exact⟨_,_,bW.o,fun t ht=> .inl ht,dP.o,en.o,bg.o⟩
     case round=>
      clear bW dP en bg aE aj;obtain⟨L,cnt,jE,gB,ea,mj,hx⟩:=hrel;have dN:=J jE.left_eq;rcases jE.next 0 with ⟨h0,hL,aV⟩|⟨t',q,w6,UC,hL,hS,ao,aV,jD,ey,al,pO⟩
      ·have iv:=J (aF.o (fun t' ht=>((gB t' ((Vq.o t').2 ht)).resolve_left (hL t')).1) (fun hd=>((gB t ((Vq.o t).2 hd)).resolve_left (hL t)).2 rfl));have ZJ:=J hx;clear hL gB ea mj hx jE dN;go_wp2_with fail;go_roundw
       case rel=>exact⟨j+1,by omega,by go_num,iv.o,ZJ.o⟩
       case measure=>simp[intOf]<;>omega
      ·have hne:rb≠bm:=by have:=ki.o;omega
       have hne2:rb≠nb:=by have:=U7.o;omega
       have iN:D7 w6 bm env.length (BW env):=AS.at ea (al.block bm (AS.lt ea) (fun e=>hne (by injection e with e;exact e.symm)));have nP:Blk w6 nb 62 #[.string s,.int .i64 z]:=(al.block nb mj.lt (fun e=>hne2 (by injection e with e;exact e.symm))).trans mj;obtain⟨gz,_⟩:=iN.look t' ao;obtain⟨q0,q1⟩:=nP.twoB;have fq:=cD.o.map t';have aO:=J (hx.grown al (fun k e=>by injection e with e;subst e;exact kZ.o));have ng:=J iN;have bT:=J nP;have db:=J jD;have aW:=J ey;have mK:=J gB;have t9:=J ((Vq.o t').1 hS);obtain⟨u,hu⟩:∃u:ByteArray,str t'= .string u:=⟨_,rfl⟩;rw[hu]at gz aV pO;have ks:=I7 hu i2.o;by_cases hf:0<=Ao env t'
       ·rw[if_pos hf]at fq;rw[fq]at gz;simp only[Option.getD_some,Option.isSome_some]at gz;by_cases hte:t'=t
        ·have bD:Hid (¬AO ns env):=J (fun h=>(cT.o h).2 (hte ▸ t9.o));rw[decide_eq_true hte]at ks;clear hte hf fq jE gB ea mj hx jD ey al iN nP hu hL hS hne hne2;go_wp2_with fail;go_ret;exact⟨false,rfl,⟨(fun h=>by cases h),fun h=>absurd h bD.o⟩,aq.o.trans aO.o⟩
        ·have Vr:Hid (∀x,SS x->(L x/\x≠t')\/(0<=Ao env x/\x≠t)):=J (fun x au=>by
          by_cases e:x=t'
          ·exact .inr (by rw[e];exact⟨hf,hte⟩)
          ·exact(mK.o x au).imp (fun h=>⟨h,e⟩) (fun h=>h))
         rw[decide_eq_false hte]at ks;clear hte hf fq jE gB ea mj hx jD ey al iN nP hu hL hS hne hne2;go_wp2_with fail;go_roundw
         case rel=>exact⟨_,_,db.o,Vr.o,ng.o,bT.o,aO.o⟩
         case measure=>rw[dN.o,db.o.left_eq];exact aW.o
       ·rw[if_neg hf]at fq;rw[fq]at gz;simp only[Option.getD_none,Option.isSome_none]at gz;have bD:Hid (¬AO ns env):=J (fun h=>hf ((cT.o h).1 t' t9.o));clear hf fq jE gB ea mj hx jD ey al iN nP hu hL hS hne hne2 ks;go_wp2_with fail;go_ret;exact⟨false,rfl,⟨(fun h=>by cases h),fun h=>absurd h bD.o⟩,aq.o.trans aO.o⟩
    ·obtain rfl:j=k:=by omega
     have cP:=J (HF.o.good (by rw[<-HN.o];exact Nat.le_refl _) cD.o);clear hx;go_wp2_with fail;go_ret;exact⟨true,rfl,⟨fun _=>cP.o,fun _=>rfl⟩,aq.o.trans HX.o⟩
def Ph(ns:List Nd)(env:Env)(t s:Tx):Prop:=0<=Ao env t/\AB ns (Ao env t).toNat s
structure IR (ns:List Nd) (env:Env) (T:Tx->Prop) (U:List Tx) (L:List Tx) (i:Nat):Prop where
 asc:Asc L
 reach:∀t∈L,AA ns env T t
 base:∀t,T t->t∈L
 clos:∀t∈L.take i,∀s,Ph ns env t s->s∈L
 inU:∀t∈L,t∈U
 le:i<=L.length
section
variable {ns:List Nd} {env:Env} {T:Tx->Prop} {U L:List Tx} {i:Nat}
theorem IR.start{ls:List Tx}(hT:∀t,T t↔t∈ls)(hU:∀t∈ls,t∈U):IR ns env T U (BQ ls) 0:=
 ⟨Gj _,fun t ht=> .here ((hT t).2 (Ce.1 ht)),fun t ht=>Ce.2 ((hT t).1 ht),(fun t ht=>by rw[List.take_zero]at ht;cases ht),fun t ht=>hU t (Ce.1 ht),Nat.zero_le _⟩
theorem IR.len(h:IR ns env T U L i):L.length<=U.length:=En h.asc.nodup h.inU
theorem IR.more(h:IR ns env T U L i)(hi:i<L.length){l:List Tx}(hl:∀s,Ph ns env L[i] s↔s∈l)(fS:∀t∈l,t∈U):IR ns env T U (BQ (L++l)) 0/\L.length<=(BQ (L++l)).length/\((BQ (L++l)).length<=L.length->IR ns env T U L (i+1)):=by
 have fE:∀t∈L,t∈BQ (L++l):=fun t ht=>Ce.2 (List.mem_append_left _ ht)
 refine⟨⟨Gj _,fun t ht=> ?_,fun t ht=>fE t (h.base t ht),(fun t ht=>by rw[List.take_zero]at ht;cases ht),fun t ht=> ?_,Nat.zero_le _⟩,En h.asc.nodup fE,fun hle=> ?_⟩
 ·rcases List.mem_append.1 (Ce.1 ht) with ht|ht
  ·exact h.reach t ht
  ·have hs:=(hl t).2 ht;exact .step (h.reach _ (List.getElem_mem hi)) hs.1 hs.2
 ·rcases List.mem_append.1 (Ce.1 ht) with ht|ht
  ·exact h.inU t ht
  ·exact fS t ht
 ·have he:=R8 h.asc (Gj (L++l)) fE hle;refine⟨h.asc,h.reach,h.base,fun t ht s hs=> ?_,h.inU,hi⟩;rw[List.take_succ_eq_append_getElem hi]at ht;rcases List.mem_append.1 ht with ht|ht
  ·exact h.clos t ht s hs
  ·rw[List.mem_singleton]at ht;subst ht;rw[he];exact Ce.2 (List.mem_append_right _ ((hl s).1 hs))
theorem IR.done(h:IR ns env T U L L.length)(t:Tx):t∈L↔AA ns env T t:=by
 constructor
 ·exact h.reach t
 ·intro ht
  induction ht with
  |here ht=>exact h.base _ ht
  |step _ h1 h2 ih=>exact h.clos _ (by rw[List.take_length];exact ih) _ ⟨h1,h2⟩
end
theorem L8{ns:List Nd}{env:Env}{x:Tx}{l:List Tx}(h0:0<=Ao env x)(hl:AQ ns (Ao env x) l)(s:Tx):Ph ns env x s↔s∈l:=by
 rw[<-AX.mem hl s];constructor
 ·rintro⟨h1,h2⟩;have:=h2.lt;exact⟨h1,by omega,h2⟩
 ·rintro⟨h1,_,h2⟩;exact⟨h1,h2⟩
theorem Nu{ns:List Nd}{env:Env}{x:Tx}(h0:¬0<=Ao env x)(s:Tx):Ph ns env x s↔s∈([]:List Tx):=by
 constructor
 ·rintro⟨h1,_⟩;exact absurd h1 h0
 ·intro h;cases h
def E8(ns:List Nd)(env:Env)(T:Tx->Prop)(U:List Tx)(w:World)(e:Ending)(w':World):Prop:=∃v l,e= .returned v/\BP w.heap.size w' v l/\Asc l/\(∀t,t∈l↔AA ns env T t)/\(∀t∈l,t∈U)/\l.length<=10000/\Ext w w'
theorem Hx(B g:Nat)(w:World)(ns:List Nd)(rv:Value)(h:GrR B g w ns rv)(v:Value)(env:Env)(he:RdE w v env)(hn:env.length<=100000)(u:Value)(ls:List Tx)(hu:Bl w u ls)(fG:ls.length<=5000)(T:Tx->Prop)(hT:∀t,T t↔t∈ls)(U:List Tx)(fS:∀t∈ls,t∈U)(V8:∀t∈CA ns,t∈U)(Y7:U.length<=10000)(Um:∀t∈U,t.length<=1000000):
  Calls Tryz.prog 100 #[.pointer (some ⟨g,0,none⟩),v,u] w (E8 ns env T U w):=by
 have HG:=J h;have wJ:=J Um;have Z2:=J V8;have aF:=J (IR.start (ns:=ns) (env:=env) (U:=U) hT fS);have gR:=J (DE w u ls hu (by omega) (fun t ht=>by have:=Um t (fS t ht);omega));have dn:=J (fun W (hx:Ext w W) t=>DS W v env (he.ext hx) hn t);have bG:=J (fun W (hx:Ext w W) z=>Cv B g W ns rv (HG.o.keep hx) z);unfold CQ at bG;unfold E8;obtain⟨A,c,rfl⟩:=GR he;obtain⟨m0,A0,c0,rfl⟩:=hu.shape;clear h he hu fG hT fS V8 Um;go_enter Tryz.func100,Tryz.ntmps100;go_wp2_with fail;refine gR.o.mono ?_
 rintro e w1 ⟨v1,rfl,cO,am⟩;have fC:=J cO;have ah:=J am;obtain⟨m1,A1,c1,rfl⟩:=cO.arr.shape;clear cO am gR;go_wp2_with fail
 go_loopg [7,8,9,10] ((U.length-(BQ ls).length)*20000+(BQ ls).length) (fun gh s7 s8 _ _ wr=>∃(L:List Tx) (i:Nat),gh=(U.length-L.length)*20000+(L.length-i)/\s8= .int .i64 (i:Int)/\BP w.heap.size wr s7 L/\IR ns env T U L i/\Ext w wr)
 case atStart=>exact⟨_,0,rfl,rfl,fC.o,aF.o,ah.o⟩
 case round=>
  clear fC aF ah;obtain⟨L,i,iD,rfl,ho,hr,hx⟩:=hrel;have fl:=J iD;have HO:=J ho;have HR:=J hr;have HX:=J hx;have fG:=hr.len;have hil:=hr.le;obtain⟨m7,A7,c7,rfl⟩:=ho.arr.shape;have Wg:=ho.arr.len;obtain⟨n7,gO⟩:∃n7,n7=L.length:=⟨_,rfl⟩;rw[<-gO]at fG hil Wg;have fN:=J gO;obtain rfl:m7=n7:=by omega
  clear iD ho hr hx gO Wg;by_cases hlt:i<m7
  ·have pM:i<L.length:=by rw[<-fN.o];exact hlt
   have nf:=J (fun l h1 h2=>HR.o.more pM (l:=l) h1 h2);obtain⟨_,_,hv,_,_,aB⟩:=HO.o.arr.open;injection hv with hv1 hv2 hv3
   subst hv1;clear hv2 hv3;obtain⟨gb,o,rfl,cw,aB⟩:=aB (by omega);have p0:=aB i pM;have az:=wJ.o _ (HR.o.inU _ (List.getElem_mem pM));have gA:(0:Int)<=(i:Int):=by omega
   have zD:(i:Int)<(m7:Int):=by omega
   have lr:IntKind.i64.wrap ((i:Int)+1)=(i:Int)+1:=IntWalk.i64_in _ (by omega);generalize L[i]=x at *;have mI:=J (fun W (hx:Ext w W)=>dn.o W hx x);have iF:=J (fun l h0 hl=>L8 (ns:=ns) (env:=env) (x:=x) (l:=l) h0 hl);have fK:=J (Nu (ns:=ns) (env:=env) (x:=x));generalize Ao env x=z at *;obtain⟨s,hs⟩:∃s:ByteArray,str x= .string s:=⟨_,rfl⟩;rw[hs]at mI p0;have dW:=J p0;clear aB pM hs az p0;go_wp2_with (at_builtin;go_must (refine Cu (B:=wr.heap.size) rfl _ _ rfl rfl (BP.empty wr.heap.size _ _) rfl (HO.o.arr.ext ((Ext.refl _).alloc _)) (by have:=fN.o;simp;omega) (by simp) ?_;intro v5 w5 cY fT jT;rw[List.nil_append]at cY;have bg:Hid (Ext wr w5):=J (((Ext.refl wr).alloc _).more jT);have gT:=J cY;have p0:=(bg.o.cell cw).trans dW.o;have YN:gb<w5.heap.size:=Nat.lt_of_lt_of_le cw bg.o.size;obtain⟨m5,A5,c5,rfl⟩:=cY.arr.shape;clear cY fT jT));go_wp2_with fail;refine(mI.o w5 (HX.o.trans bg.o)).mono ?_
   rintro e w6 ⟨rfl,be⟩;have aO:=J (bg.o.trans be);have dj:=J (gT.o.ext be);clear be p0 bg gT mI dn;by_cases hz:0<=z
   ·have kx:decide (z>=0)=true:=decide_eq_true hz;have HZ:=J hz;have cW:=J (bG.o w6 (HX.o.trans aO.o) z);clear bG hz;go_wp2_with fail;refine cW.o.mono ?_
    rintro e w8 ⟨v8,l8,rfl,om,nB,dI,bI⟩;have qe:=J (iF.o l8 HZ.o nB);have lS:=J (AQ.texts HG.o.ok nB);have lP:Hid (∀t∈l8,t∈U):=J (fun t ht=>Z2.o t (lS.o.2 t ht));have bV:=J (aO.o.trans bI);have my:=J (dj.o.ext bI);have ym:=J om;have hfew:=HG.o.few;have dI:=lS.o.1;obtain⟨m8,A8,c8,rfl⟩:=om.shape;clear om nB bI cW aO dj iF fK;have lR:Hid (L.length+l8.length<=2147483648):=J (by have:=fN.o;omega);go_wp2_with (at_builtin;go_must (refine Cu (B:=wr.heap.size) rfl _ _ rfl rfl my.o rfl ym.o lR.o bV.o.size ?_;intro v9 w9 nM eA jk));have dz:=J (bV.o.more jk);have ph:=J nM;clear nM eA jk bV my ym;have dl:=J (nf.o l8 (qe.o) (lP.o));clear nf;have gS:=J (DE w9 _ (L++l8) ph.o.arr (by rw[List.length_append];have:=fN.o;omega) (fun t ht=>by
     have h1:t∈U:=(dl.o.1.inU t (Ce.2 ht));have:=wJ.o t h1;omega))
    generalize BQ (L++l8)=L2 at *;obtain⟨mq,Aq,cq,rfl⟩:=ph.o.arr.shape;clear ph;go_wp2_with fail;refine gS.o.mono ?_
    rintro e wz ⟨vz,rfl,ff,rt⟩;have wE:=J (HX.o.trans (dz.o.trans rt));have j5:=J (ff.mono (Nat.le_trans HX.o.size dz.o.size));have eP:=J (HO.o.ext (dz.o.trans rt));obtain⟨mz,Az,cz,rfl⟩:=ff.arr.shape;have mg:=ff.arr.len;have wj:=dl.o.1.len;have wk:=dl.o.2.1;have gO:=fN.o;clear ff rt gS HO HX dz;by_cases hgt:m7<mz
    ·have hd:decide ((mz:Int)>(m7:Int))=true:=decide_eq_true (by omega);have ba:(m7:Int)<(mz:Int):=by omega
     have eN:=J dl.o.1;have qh:Hid ((U.length-L2.length)*20000+(L2.length-0)<(U.length-L.length)*20000+(L.length-i)):=J (by omega);clear mg wj wk gO dl eP ba;go_wp2_with fail
     go_roundg ((U.length-L2.length)*20000+(L2.length-0))
     case rel=>exact⟨L2,0,rfl,rfl,j5.o,eN.o,wE.o⟩
     case measure=>rw[fl.o];exact qh.o
    ·have hd:decide ((mz:Int)>(m7:Int))=false:=decide_eq_false (by omega);have ba:¬(m7:Int)<(mz:Int):=by omega
     have eN:=J (dl.o.2.2 (by omega));have qh:Hid ((U.length-L.length)*20000+(L.length-(i+1))<(U.length-L.length)*20000+(L.length-i)):=J (by omega);clear mg wj wk gO dl j5 ba;go_wp2_with fail
     go_roundg ((U.length-L.length)*20000+(L.length-(i+1)))
     case rel=>exact⟨L,i+1,rfl,by go_num,eP.o,eN.o,wE.o⟩
     case measure=>rw[fl.o];exact qh.o
   ·have kx:decide (z>=0)=false:=decide_eq_false hz;have qe:=J (fK.o (by omega));have lP:Hid (∀t∈([]:List Tx),t∈U):=J (fun t ht=>by cases ht);have ph:Hid (BP wr.heap.size w6 (.slice A5 m5 c5) (L++[])):=J (by rw[List.append_nil];exact dj.o);clear hz bG iF fK dj;obtain⟨l8,dI⟩:∃l8:List Tx,l8=[]:=⟨_,rfl⟩;rw[<-dI]at qe lP ph;have dI:l8.length=0:=by rw[dI];rfl
    have dl:=J (nf.o l8 (qe.o) (lP.o));clear nf;have gS:=J (DE w6 _ (L++l8) ph.o.arr (by rw[List.length_append];have:=fN.o;omega) (fun t ht=>by
     have h1:t∈U:=(dl.o.1.inU t (Ce.2 ht));have:=wJ.o t h1;omega))
    generalize BQ (L++l8)=L2 at *;clear ph;go_wp2_with fail;refine gS.o.mono ?_
    rintro e wz ⟨vz,rfl,ff,rt⟩;have wE:=J (HX.o.trans (aO.o.trans rt));have j5:=J (ff.mono (Nat.le_trans HX.o.size aO.o.size));have eP:=J (HO.o.ext (aO.o.trans rt));obtain⟨mz,Az,cz,rfl⟩:=ff.arr.shape;have mg:=ff.arr.len;have wj:=dl.o.1.len;have wk:=dl.o.2.1;have gO:=fN.o;clear ff rt gS HO HX aO;by_cases hgt:m7<mz
    ·have hd:decide ((mz:Int)>(m7:Int))=true:=decide_eq_true (by omega);have ba:(m7:Int)<(mz:Int):=by omega
     have eN:=J dl.o.1;have qh:Hid ((U.length-L2.length)*20000+(L2.length-0)<(U.length-L.length)*20000+(L.length-i)):=J (by omega);clear mg wj wk gO dl eP ba;go_wp2_with fail
     go_roundg ((U.length-L2.length)*20000+(L2.length-0))
     case rel=>exact⟨L2,0,rfl,rfl,j5.o,eN.o,wE.o⟩
     case measure=>rw[fl.o];exact qh.o
    ·have hd:decide ((mz:Int)>(m7:Int))=false:=decide_eq_false (by omega);have ba:¬(m7:Int)<(mz:Int):=by omega
     have eN:=J (dl.o.2.2 (by omega));have qh:Hid ((U.length-L.length)*20000+(L.length-(i+1))<(U.length-L.length)*20000+(L.length-i)):=J (by omega);clear mg wj wk gO dl j5 ba;go_wp2_with fail
     go_roundg ((U.length-L.length)*20000+(L.length-(i+1)))
     case rel=>exact⟨L,i+1,rfl,by go_num,eP.o,eN.o,wE.o⟩
     case measure=>rw[fl.o];exact qh.o
  ·obtain rfl:i=m7:=by omega
   have HE:Hid (∀t,t∈L↔AA ns env T t):=J (by
    have h:=HR.o;rw[fN.o]at h;exact h.done)
   have HF:=J (And.intro HR.o.asc HR.o.inU);have jd:L.length<=10000:=by rw[<-fN.o];omega
   have Z7:=J jd;clear jd HR;go_wp2_with fail;go_ret;exact⟨_,L,rfl,HO.o,HF.o.1,HE.o,HF.o.2,Z7.o,HX.o⟩
theorem GA{ns:List Nd}{env:Env}{id:Int}(h0:0<=id)(h1:id<(ns.length:Int))(t:Tx):AA ns env (AX ns id) t↔AA ns env (AB ns id.toNat) t:=
 ⟨AA.mono (fun _ ht=>ht.2.2),AA.mono (fun _ ht=>⟨h0,h1,ht⟩)⟩
theorem GK{B:Nat}{w:World}{v:Value}{l:List Tx}(h:BP B w v l):∃A c,v= .slice A l.length c:=by
 obtain⟨m,A,c,rfl⟩:=h.arr.shape;have:=h.arr.len;exact⟨A,c,by rw[this]⟩
theorem Jk(B g:Nat)(w:World)(ns:List Nd)(rv:Value)(h:GrR B g w ns rv)(v:Value)(env:Env)(he:RdE w v env)(av:Ct ns env)(id:Int):
  Calls Tryz.prog 44 #[.pointer (some ⟨g,0,none⟩),v,.int .i64 id] w (DQ ns env id w):=by
 have HG:=J h;have lk:=J he;have cD:=J av;have YR:=av.few;have kc:=J (G9 B g w ns rv h id);have dn:=J (fun W (hx:Ext w W) t=>DS W v env (he.ext hx) (by omega) t);obtain⟨A,c,rfl⟩:=GR he;unfold DQ;clear h he av YR;by_cases hin:0<=id/\id<(ns.length:Int);rotate_left
 ·rw[decide_eq_false hin]at kc;have fc:=J hin;clear hin;go_enter Tryz.func44,Tryz.ntmps44;go_wp2_with fail;refine kc.o.mono ?_
  rintro e w1 ⟨rfl,am⟩;have ah:=J am;clear am;go_wp2_with fail;go_ret2;exact⟨.slice none 0 0,[],1,rfl,BS.none_ _,.inl ⟨fc.o,rfl,rfl⟩,by decide,(fun t ht=>by cases ht),ah.o⟩
 ·rw[decide_eq_true hin]at kc;have gV:=J hin;clear hin;go_enter Tryz.func44,Tryz.ntmps44;go_wp2_with fail;refine kc.o.mono ?_
  rintro e w1 ⟨rfl,am⟩;have ah:=J am;have bG:=J (Cv B g w1 ns rv (HG.o.keep am) id);unfold CQ at bG;clear am kc;go_wp2_with fail;refine bG.o.mono ?_
  rintro e w3 ⟨v3,l,rfl,jV,eu,_,ae⟩;have aj:=J (ah.o.trans ae);obtain⟨hl2,fS⟩:=AQ.texts HG.o.ok eu;have hfew:=HG.o.few;have lM:=J (Hx B g w3 ns rv (HG.o.keep aj.o) _ env (lk.o.ext aj.o) (by have:=cD.o.few;omega) v3 l jV (by omega) (AX ns id) (AX.mem eu) (CA ns) fS (fun t ht=>ht) (by unfold CA;rw[List.length_map];omega) (fun t ht=>by have:=BM HG.o.ok t ht;omega));unfold E8 at lM;obtain⟨m3,A3,c3,rfl⟩:=jV.shape;clear eu ae jV hl2 fS bG;go_wp2_with fail;refine lM.o.mono ?_
  rintro e w4 ⟨v4,L,rfl,eR,mn,d7,tU,tO,aR⟩;have aE:=J (aj.o.trans aR);have i7:=J eR.arr;have dl:=J (And.intro mn (fun t=>(d7 t).trans (GA gV.o.1 gV.o.2 t)));have lP:=J tU;obtain⟨A4,c4,rfl⟩:=GK eR;obtain⟨n,hn⟩:∃n,n=L.length:=⟨_,rfl⟩;have HN:=J hn;rw[<-hn]at tO i7 ⊢;clear aR eR mn d7 tU lM hn;go_wp2_with fail;go_loopw [23,10] (fun uc _ wr=>∃k:Nat,k<=n/\uc= .int .i64 (k:Int)/\(∀t∈L.take k,0<=Ao env t)/\Ext w4 wr) (fun uc _ _=>n-(intOf uc).toNat)
  case atStart=>exact⟨0,Nat.zero_le _,rfl,by rw[List.take_zero];exact(fun t ht=>by cases ht),Ext.refl w4⟩
  case round=>
   obtain⟨k,hk,rfl,gB,hx⟩:=hrel;have HX:=J hx;by_cases hlt:k<n
   ·have oY:k<L.length:=by rw[<-HN.o];exact hlt
    obtain⟨_,_,hv,_,_,aB⟩:=i7.o.open;injection hv with hv1 hv2 hv3
    subst hv1;clear hv2 hv3;obtain⟨gb,o,rfl,cw,aB⟩:=aB (by rw[<-HN.o];omega);have p0:=(hx.cell cw).trans (aB k oY);have fy:(0:Int)<=(k:Int):=by omega
    have lD:(k:Int)<(n:Int):=by omega
    have iW:IntKind.i64.wrap ((k:Int)+1)=(k:Int)+1:=IntWalk.i64_in _ (by omega);have cA:Hid (0<=Ao env L[k]->∀t∈L.take (k+1),0<=Ao env t):=J (fun h t ht=>by
     rw[List.take_succ_eq_append_getElem oY]at ht;rcases List.mem_append.1 ht with ht|ht
     ·exact gB t ht
     ·rw[List.mem_singleton]at ht;rw[ht];exact h)
    have fc:Hid (L[k]∈L):=J (List.getElem_mem oY);clear aB gB hx;generalize L[k]=x at *;clear oY;have mI:=J (dn.o wr (aE.o.trans HX.o) x);obtain⟨z,hz⟩:∃z,Ao env x=z:=⟨_,rfl⟩;have HZ:=J hz;rw[hz]at mI cA;obtain⟨s,hs⟩:∃s:ByteArray,str x= .string s:=⟨_,rfl⟩;rw[hs]at mI p0;clear hs hz;by_cases h0:0<=z
    ·have hd:decide (z<0)=false:=decide_eq_false (by omega);have ba:¬z<0:=by omega
     have mK:=J (cA.o h0);clear cA h0 ba;go_wp2_with fail;refine mI.o.mono ?_
     rintro e w6 ⟨rfl,be⟩;have aO:=J (HX.o.trans be);clear be p0;go_wp2_with fail;go_roundw
     case rel=>exact⟨k+1,by omega,by go_num,mK.o,aO.o⟩
     case measure=>simp[intOf];omega
    ·have hd:decide (z<0)=true:=decide_eq_true (by omega);have bD:Hid (¬B8 ns env id.toNat):=J (fun hb=>by
      have h1:=hb x ((dl.o.2 x).1 fc.o);rw[HZ.o]at h1;exact h0 h1)
     clear cA h0;go_wp2_with fail;refine mI.o.mono ?_
     rintro e w6 ⟨rfl,be⟩;have aO:=J (aE.o.trans (HX.o.trans be));clear be p0;go_wp2_with fail;go_ret2;exact⟨.slice none 0 0,[],8,rfl,BS.none_ _,.inr (.inl ⟨gV.o.1,gV.o.2,bD.o,rfl,rfl⟩),by decide,(fun t ht=>by cases ht),aO.o⟩
   ·obtain rfl:k=n:=by omega
    have cT:Hid (B8 ns env id.toNat):=J (fun t ht=>by
     have h1:=(dl.o.2 t).2 ht;rw[show L.take k=L from List.take_of_length_le (by rw[<-HN.o];exact Nat.le_refl _)]at gB;exact gB t h1)
    clear gB hx;go_wp2_with fail;go_ret2;exact⟨_,L,0,rfl,i7.o.ext HX.o,.inr (.inr ⟨gV.o.1,gV.o.2,cT.o,rfl,dl.o.1,dl.o.2⟩),by rw[<-HN.o];omega,fun t ht=>BM HG.o.ok t (lP.o t ht),aE.o.trans HX.o⟩
theorem Ee(B g:Nat)(w:World)(ns:List Nd)(rv:Value)(h:GrR B g w ns rv)(v:Value)(env:Env)(he:RdE w v env)(hn:env.length<=100000)(cd:TxE env):
  Calls Tryz.prog 35 #[.pointer (some ⟨g,0,none⟩),v] w (Cp ns env w):=by
 have HG:=J h;have lk:=J he;have eD:=J cd;have fc:=J (fun W (hx:Ext w W) z=>G9 B g W ns rv (HG.o.keep hx) z);have dn:=J (fun W (hx:Ext w W) t=>DS W v env (he.ext hx) hn t);obtain⟨A,c,rfl,aB⟩:=he;have bH:=J aB;obtain⟨n,bh⟩:∃n,n=env.length:=⟨_,rfl⟩;have HN:=J bh;unfold Cp;clear h aB cd;by_cases hfew:env.length<=64;rotate_left
 ·have HB:=J (Pe (ns:=ns) hfew);have hd:decide ((n:Int)>64)=true:=decide_eq_true (by omega);have ba:(64:Int)<(n:Int):=by omega
  rw[<-bh]at hn lk dn ⊢;clear bh hfew ba;go_enter Tryz.func35,Tryz.ntmps35;go_wp2_with fail;go_ret;exact⟨false,rfl,⟨(fun h=>by cases h),fun h=>absurd h HB.o⟩,Ext.refl w⟩
 have tr:=J hfew;have hd:decide ((n:Int)>64)=false:=decide_eq_false (by omega);have ba:¬(64:Int)<(n:Int):=by omega
 have zn:n<=64:=by omega
 rw[<-bh]at hn lk dn ⊢;clear bh hfew ba;go_enter Tryz.func35,Tryz.ntmps35;go_wp2_with fail;go_loopw [5,17] (fun _ yB wr=>∃k:Nat,k<=n/\yB= .int .i64 (k:Int)/\Fx ns env k/\Ext w wr) (fun _ yB _=>n-(intOf yB).toNat)
 case atStart=>exact⟨0,Nat.zero_le _,rfl,Fx.start ns env,Ext.refl w⟩
 case round=>
  clear hd;obtain⟨k,hk,rfl,hs,hx⟩:=hrel;have HS:=J hs;have HX:=J hx;clear hs;by_cases hlt:k<n
  ·have bB:k<env.length:=by rw[<-HN.o];exact hlt
   have dg:=bH.o (by rw[<-HN.o];omega);obtain⟨gb,o,rfl,bO,hc⟩:=dg;obtain⟨p0,p1⟩:=hc k bB;rw[<-hx.cell bO]at p0 p1;have fy:(0:Int)<=(k:Int):=by omega
   have lD:(k:Int)<(n:Int):=by omega
   have iW:IntKind.i64.wrap ((k:Int)+1)=(k:Int)+1:=IntWalk.i64_in _ (by omega);have aF:=J (fun h1 h2 h3=>HS.o.step bB h1 h2 h3);have cG:=J (Nc (ns:=ns) bB);have cT:=J (Nb (ns:=ns) bB);have mr:=J (eD.o _ (List.getElem_mem bB));have eO:Hid (k=0\/∃p,k=p+1/\∃hp:p<env.length,w.cell? ⟨gb,o+p*2,none⟩=some (str env[p].1)/\(env[p].1<env[k].1->DB (env.take (k+1)))/\(¬env[p].1<env[k].1->¬AO ns env)):=J (by
    rcases k with _|p
    ·exact .inl rfl
    ·refine .inr ⟨p,rfl,by omega,(hc p (by omega)).1,fun h=>Nf bB HS.o.2 h,fun h=>Pf bB h⟩)
   have Vp:Hid (k=0->DB (env.take (k+1))):=J (fun h=>by subst h;exact Le bB);clear hc hx;generalize env[k]=y at *;clear bB;obtain⟨t,z⟩:=y;simp only at p0 p1 aF cG cT mr eO;have kD:=J (fun W=>KD W t (by have:=mr.o.1;omega));obtain⟨s,hs⟩:∃s:ByteArray,str t= .string s:=⟨_,rfl⟩;rw[hs]at p0 kD;have i2:=J hs;clear hs;go_upto_region 6 with fail;have dx:=Blk.new wr 62 #[.string s,.int .i64 z];have bq:=(Ext.refl wr).alloc (.cells #[.string s,.int .i64 z] 62);generalize wr.alloc (.cells #[.string s,.int .i64 z] 62)=w7 at *;generalize wr.heap.size=nb at *;have ay:=J (HX.o.trans bq);have bX:=J dx.twoB;clear dx bq p0 p1;obtain⟨wb,hwb⟩:∃wb,Cs t=wb:=⟨_,rfl⟩;have qc:=J hwb;rw[hwb]at kD;clear hwb;cases wb
   ·have ar:=J (cG.o qc.o);clear fc;have eh:Hid (∀w1 w2,(fun w':World=>Ext w7 w'/\w'.cell? ⟨nb,0,none⟩=some (.string s)/\w'.cell? ⟨nb,1,none⟩=some (.int .i64 z)) w1->Ext w1 w2->(fun w':World=>Ext w7 w'/\w'.cell? ⟨nb,0,none⟩=some (.string s)/\w'.cell? ⟨nb,1,none⟩=some (.int .i64 z)) w2):=J (fun w1 w2 h hx=>by
     obtain⟨p0,p1,p2⟩:=h;exact⟨p0.trans hx,hx.keep p1,hx.keep p2⟩)
    refine wp_region_held_drew (S:=fun w'=>Ext w7 w'/\w'.cell? ⟨nb,0,none⟩=some (.string s)/\w'.cell? ⟨nb,1,none⟩=some (.int .i64 z)) (by kernel_rfl) (by exact⟨(Ext.refl w7).drew,bX.o.1,bX.o.2⟩) (fun hHeld=> ?_);refine' wpAnyH_take (i:=0) (oi:=⟨some 22,_,_,_,_,_⟩) (v:=_) rfl (by kernel_rfl) (by kernel_rfl) (by kernel_rfl) (fun _ _ _ h=>h) (Or.inl ⟨by rfl,?_⟩) hHeld ?_
    rotate_left
    ·(intro w' aa;(try dsimp only at aa);go_simp;(try with_reducible rfl))
    try simp only[pu]
    refine' wpAnyH_take (i:=1) (oi:=⟨some 23,_,_,_,_,_⟩) (v:=_) rfl (by kernel_rfl) (by kernel_rfl) (by kernel_rfl) (fun _ _ _ h=>h) (Or.inl ⟨by rfl,?_⟩) hHeld ?_
    rotate_left
    ·(intro w' aa;(try dsimp only at aa);go_simp;(try with_reducible rfl))
    try simp only[pu]
    refine wpAnyH_ready (rs:=[2]) (by kernel_rfl) (by simp) ?_
    refine AllReadyH.cons (i:=2) rfl (fun K hK=> ?_) AllReadyH.nil;go_simp
    (go_at_call 99;refine(kD.o _).mono ?_;rintro e w8 ⟨rfl,bI⟩)
    try go_wp2_with fail
    refine hK.out _ _ ?_ (fun hHeld=> ?_)
    ·exact eh.o _ _ hHeld bI
    clear hK K;try simp only[pu]
    refine' wpAnyH_take (i:=3) (oi:=⟨some 25,_,_,_,_,_⟩) (v:=_) rfl (by kernel_rfl) (by kernel_rfl) (by kernel_rfl) (fun _ _ _ h=>h) (Or.inl ⟨by rfl,?_⟩) hHeld ?_
    rotate_left
    ·(intro w' aa;(try dsimp only at aa);go_simp;(try with_reducible rfl))
    try simp only[pu]
    refine' wpAnyH_take (i:=4) (oi:=⟨some 26,_,_,_,_,_⟩) (v:=_) rfl (by kernel_rfl) (by kernel_rfl) (by kernel_rfl) (fun _ _ _ h=>h) (Or.inl ⟨by rfl,?_⟩) hHeld ?_
    rotate_left
    ·(intro w' aa;(try dsimp only at aa);go_simp;(try with_reducible rfl))
    try simp only[pu]
    refine' wpAnyH_take (i:=5) (oi:=⟨some 27,_,_,_,_,_⟩) (v:=undef) rfl (by kernel_rfl) (by kernel_rfl) (by kernel_rfl) (fun _ _ _ h=>h) (Or.inr ⟨by rfl,rfl⟩) hHeld ?_
    try simp only[pu]
    refine' wpAnyH_take (i:=6) (oi:=⟨some 28,_,_,_,_,_⟩) (v:=undef) rfl (by kernel_rfl) (by kernel_rfl) (by kernel_rfl) (fun _ _ _ h=>h) (Or.inr ⟨by rfl,rfl⟩) hHeld ?_
    try simp only[pu]
    refine' wpAnyH_take (i:=7) (oi:=⟨some 29,_,_,_,_,_⟩) (v:=undef) rfl (by kernel_rfl) (by kernel_rfl) (by kernel_rfl) (fun _ _ _ h=>h) (Or.inr ⟨by rfl,rfl⟩) hHeld ?_
    try simp only[pu]
    refine' wpAnyH_take (i:=8) (oi:=⟨some 30,_,_,_,_,_⟩) (v:=undef) rfl (by kernel_rfl) (by kernel_rfl) (by kernel_rfl) (fun _ _ _ h=>h) (Or.inr ⟨by rfl,rfl⟩) hHeld ?_
    try simp only[pu]
    refine' wpAnyH_take (i:=9) (oi:=⟨some 31,_,_,_,_,_⟩) (v:=undef) rfl (by kernel_rfl) (by kernel_rfl) (by kernel_rfl) (fun _ _ _ h=>h) (Or.inr ⟨by rfl,rfl⟩) hHeld ?_
    try simp only[pu]
    refine' wpAnyH_take (i:=10) (oi:=⟨some 32,_,_,_,_,_⟩) (v:=undef) rfl (by kernel_rfl) (by kernel_rfl) (by kernel_rfl) (fun _ _ _ h=>h) (Or.inr ⟨by rfl,rfl⟩) hHeld ?_
    try simp only[pu]
    refine' wpAnyH_take (i:=11) (oi:=⟨some 33,_,_,_,_,_⟩) (v:=undef) rfl (by kernel_rfl) (by kernel_rfl) (by kernel_rfl) (fun _ _ _ h=>h) (Or.inr ⟨by rfl,rfl⟩) hHeld ?_
    try simp only[pu]
    refine' wpAnyH_take (i:=12) (oi:=⟨some 34,_,_,_,_,_⟩) (v:=undef) rfl (by kernel_rfl) (by kernel_rfl) (by kernel_rfl) (fun _ _ _ h=>h) (Or.inr ⟨by rfl,rfl⟩) hHeld ?_
    try simp only[pu]
    refine' wpAnyH_take (i:=13) (oi:=⟨some 35,_,_,_,_,_⟩) (v:=undef) rfl (by kernel_rfl) (by kernel_rfl) (by kernel_rfl) (fun _ _ _ h=>h) (Or.inr ⟨by rfl,rfl⟩) hHeld ?_
    try simp only[pu]
    refine' wpAnyH_take (i:=14) (oi:=⟨some 36,_,_,_,_,_⟩) (v:=undef) rfl (by kernel_rfl) (by kernel_rfl) (by kernel_rfl) (fun _ _ _ h=>h) (Or.inr ⟨by rfl,rfl⟩) hHeld ?_
    try simp only[pu]
    refine' wpAnyH_take (i:=15) (oi:=⟨some 37,_,_,_,_,_⟩) (v:=undef) rfl (by kernel_rfl) (by kernel_rfl) (by kernel_rfl) (fun _ _ _ h=>h) (Or.inr ⟨by rfl,rfl⟩) hHeld ?_
    try simp only[pu]
    refine' wpAnyH_take (i:=16) (oi:=⟨some 38,_,_,_,_,_⟩) (v:=undef) rfl (by kernel_rfl) (by kernel_rfl) (by kernel_rfl) (fun _ _ _ h=>h) (Or.inr ⟨by rfl,rfl⟩) hHeld ?_
    try simp only[pu]
    refine' wpAnyH_take (i:=17) (oi:=⟨some 39,_,_,_,_,_⟩) (v:=undef) rfl (by kernel_rfl) (by kernel_rfl) (by kernel_rfl) (fun _ _ _ h=>h) (Or.inr ⟨by rfl,rfl⟩) hHeld ?_
    try simp only[pu]
    refine' wpAnyH_take (i:=18) (oi:=⟨some 40,_,_,_,_,_⟩) (v:=_) rfl (by kernel_rfl) (by kernel_rfl) (by kernel_rfl) (fun _ _ _ h=>h) (Or.inl ⟨by rfl,?_⟩) hHeld ?_
    rotate_left
    ·(intro w' aa;(try dsimp only at aa);go_simp;(try with_reducible rfl))
    try simp only[pu]
    refine' wpAnyH_take (i:=19) (oi:=⟨some 41,_,_,_,_,_⟩) (v:=_) rfl (by kernel_rfl) (by kernel_rfl) (by kernel_rfl) (fun _ _ _ h=>h) (Or.inl ⟨by rfl,?_⟩) hHeld ?_
    rotate_left
    ·(intro w' aa;(try dsimp only at aa);go_simp;(try with_reducible rfl))
    try simp only[pu]
    refine' wpAnyH_take (i:=20) (oi:=⟨some 42,_,_,_,_,_⟩) (v:=undef) rfl (by kernel_rfl) (by kernel_rfl) (by kernel_rfl) (fun _ _ _ h=>h) (Or.inr ⟨by rfl,rfl⟩) hHeld ?_
    try simp only[pu]
    refine' wpAnyH_take (i:=21) (oi:=⟨some 43,_,_,_,_,_⟩) (v:=undef) rfl (by kernel_rfl) (by kernel_rfl) (by kernel_rfl) (fun _ _ _ h=>h) (Or.inr ⟨by rfl,rfl⟩) hHeld ?_
    try simp only[pu]
    refine' wpAnyH_take (i:=22) (oi:=⟨some 44,_,_,_,_,_⟩) (v:=undef) rfl (by kernel_rfl) (by kernel_rfl) (by kernel_rfl) (fun _ _ _ h=>h) (Or.inr ⟨by rfl,rfl⟩) hHeld ?_
    try simp only[pu]
    refine' wpAnyH_take (i:=23) (oi:=⟨some 45,_,_,_,_,_⟩) (v:=undef) rfl (by kernel_rfl) (by kernel_rfl) (by kernel_rfl) (fun _ _ _ h=>h) (Or.inr ⟨by rfl,rfl⟩) hHeld ?_
    try simp only[pu]
    refine' wpAnyH_take (i:=24) (oi:=⟨some 46,_,_,_,_,_⟩) (v:=undef) rfl (by kernel_rfl) (by kernel_rfl) (by kernel_rfl) (fun _ _ _ h=>h) (Or.inr ⟨by rfl,rfl⟩) hHeld ?_
    try simp only[pu]
    refine' wpAnyH_take (i:=25) (oi:=⟨some 47,_,_,_,_,_⟩) (v:=_) rfl (by kernel_rfl) (by kernel_rfl) (by kernel_rfl) (fun _ _ _ h=>h) (Or.inl ⟨by rfl,?_⟩) hHeld ?_
    rotate_left
    ·(intro w' aa;(try dsimp only at aa);go_simp;(try with_reducible rfl))
    try simp only[pu]
    refine wpAnyH_done (by kernel_rfl) ?_ _
    have gC:=J (ay.o.trans hHeld.1);clear hHeld eh;go_wp2_with fail;go_ret;exact⟨false,rfl,⟨(fun h=>by cases h),fun h=>absurd h ar.o⟩,gC.o⟩
   have ld:=J (fun W hx=>fc.o W hx z);rcases eO.o with rfl|⟨p,rfl,hp,hpc,dS,dp⟩
   ·have o9:decide (((0:Nat):Int)>0)=false:=by decide
    by_cases hz:0<=z/\z<(ns.length:Int)
    ·have iv:=J (aF.o qc.o hz (Vp.o rfl));rw[decide_eq_true hz]at ld;clear hz;have eh:Hid (∀w1 w2,(fun w':World=>Ext w7 w'/\w'.cell? ⟨nb,0,none⟩=some (.string s)/\w'.cell? ⟨nb,1,none⟩=some (.int .i64 z)) w1->Ext w1 w2->(fun w':World=>Ext w7 w'/\w'.cell? ⟨nb,0,none⟩=some (.string s)/\w'.cell? ⟨nb,1,none⟩=some (.int .i64 z)) w2):=J (fun w1 w2 h hx=>by
      obtain⟨p0,p1,p2⟩:=h;exact⟨p0.trans hx,hx.keep p1,hx.keep p2⟩)
     refine wp_region_held_drew (S:=fun w'=>Ext w7 w'/\w'.cell? ⟨nb,0,none⟩=some (.string s)/\w'.cell? ⟨nb,1,none⟩=some (.int .i64 z)) (by kernel_rfl) (by exact⟨(Ext.refl w7).drew,bX.o.1,bX.o.2⟩) (fun hHeld=> ?_);refine' wpAnyH_take (i:=0) (oi:=⟨some 22,_,_,_,_,_⟩) (v:=_) rfl (by kernel_rfl) (by kernel_rfl) (by kernel_rfl) (fun _ _ _ h=>h) (Or.inl ⟨by rfl,?_⟩) hHeld ?_
     rotate_left
     ·(intro w' aa;(try dsimp only at aa);go_simp;(try with_reducible rfl))
     try simp only[pu]
     refine' wpAnyH_take (i:=1) (oi:=⟨some 23,_,_,_,_,_⟩) (v:=_) rfl (by kernel_rfl) (by kernel_rfl) (by kernel_rfl) (fun _ _ _ h=>h) (Or.inl ⟨by rfl,?_⟩) hHeld ?_
     rotate_left
     ·(intro w' aa;(try dsimp only at aa);go_simp;(try with_reducible rfl))
     try simp only[pu]
     refine wpAnyH_ready (rs:=[2]) (by kernel_rfl) (by simp) ?_
     refine AllReadyH.cons (i:=2) rfl (fun K hK=> ?_) AllReadyH.nil;go_simp
     (go_at_call 99;refine(kD.o _).mono ?_;rintro e w8 ⟨rfl,bI⟩)
     try go_wp2_with fail
     refine hK.out _ _ ?_ (fun hHeld=> ?_)
     ·exact eh.o _ _ hHeld bI
     clear hK K;try simp only[pu]
     refine' wpAnyH_take (i:=3) (oi:=⟨some 25,_,_,_,_,_⟩) (v:=_) rfl (by kernel_rfl) (by kernel_rfl) (by kernel_rfl) (fun _ _ _ h=>h) (Or.inl ⟨by rfl,?_⟩) hHeld ?_
     rotate_left
     ·(intro w' aa;(try dsimp only at aa);go_simp;(try with_reducible rfl))
     try simp only[pu]
     refine' wpAnyH_take (i:=4) (oi:=⟨some 26,_,_,_,_,_⟩) (v:=_) rfl (by kernel_rfl) (by kernel_rfl) (by kernel_rfl) (fun _ _ _ h=>h) (Or.inl ⟨by rfl,?_⟩) hHeld ?_
     rotate_left
     ·(intro w' aa;(try dsimp only at aa);go_simp;(try with_reducible rfl))
     try simp only[pu]
     refine' wpAnyH_take (i:=5) (oi:=⟨some 27,_,_,_,_,_⟩) (v:=_) rfl (by kernel_rfl) (by kernel_rfl) (by kernel_rfl) (fun _ _ _ h=>h) (Or.inl ⟨by rfl,?_⟩) hHeld ?_
     rotate_left
     ·(intro w' aa;(try dsimp only at aa);go_simp;(try with_reducible rfl))
     try simp only[pu]
     refine' wpAnyH_take (i:=6) (oi:=⟨some 28,_,_,_,_,_⟩) (v:=_) rfl (by kernel_rfl) (by kernel_rfl) (by kernel_rfl) (fun _ _ _ h=>h) (Or.inl ⟨by rfl,?_⟩) hHeld ?_
     rotate_left
     ·(intro w' aa;(try dsimp only at aa);go_simp;(try with_reducible rfl))
     try simp only[pu]
     refine' wpAnyH_take (i:=7) (oi:=⟨some 29,_,_,_,_,_⟩) (v:=_) rfl (by kernel_rfl) (by kernel_rfl) (by kernel_rfl) (fun _ _ _ h=>h) (Or.inl ⟨by rfl,?_⟩) hHeld ?_
     rotate_left
     ·(intro w' aa;(try dsimp only at aa);go_simp;(try with_reducible rfl))
     try simp only[pu]
     refine' wpAnyH_take (i:=8) (oi:=⟨some 30,_,_,_,_,_⟩) (v:=undef) rfl (by kernel_rfl) (by kernel_rfl) (by kernel_rfl) (fun _ _ _ h=>h) (Or.inr ⟨by rfl,rfl⟩) hHeld ?_
     try simp only[pu]
     refine' wpAnyH_take (i:=9) (oi:=⟨some 31,_,_,_,_,_⟩) (v:=undef) rfl (by kernel_rfl) (by kernel_rfl) (by kernel_rfl) (fun _ _ _ h=>h) (Or.inr ⟨by rfl,rfl⟩) hHeld ?_
     try simp only[pu]
     refine' wpAnyH_take (i:=10) (oi:=⟨some 32,_,_,_,_,_⟩) (v:=undef) rfl (by kernel_rfl) (by kernel_rfl) (by kernel_rfl) (fun _ _ _ h=>h) (Or.inr ⟨by rfl,rfl⟩) hHeld ?_
     try simp only[pu]
     refine' wpAnyH_take (i:=11) (oi:=⟨some 33,_,_,_,_,_⟩) (v:=undef) rfl (by kernel_rfl) (by kernel_rfl) (by kernel_rfl) (fun _ _ _ h=>h) (Or.inr ⟨by rfl,rfl⟩) hHeld ?_
     try simp only[pu]
     refine' wpAnyH_take (i:=12) (oi:=⟨some 34,_,_,_,_,_⟩) (v:=undef) rfl (by kernel_rfl) (by kernel_rfl) (by kernel_rfl) (fun _ _ _ h=>h) (Or.inr ⟨by rfl,rfl⟩) hHeld ?_
     try simp only[pu]
     refine' wpAnyH_take (i:=13) (oi:=⟨some 35,_,_,_,_,_⟩) (v:=undef) rfl (by kernel_rfl) (by kernel_rfl) (by kernel_rfl) (fun _ _ _ h=>h) (Or.inr ⟨by rfl,rfl⟩) hHeld ?_
     try simp only[pu]
     refine' wpAnyH_take (i:=14) (oi:=⟨some 36,_,_,_,_,_⟩) (v:=undef) rfl (by kernel_rfl) (by kernel_rfl) (by kernel_rfl) (fun _ _ _ h=>h) (Or.inr ⟨by rfl,rfl⟩) hHeld ?_
     try simp only[pu]
     refine' wpAnyH_take (i:=15) (oi:=⟨some 37,_,_,_,_,_⟩) (v:=undef) rfl (by kernel_rfl) (by kernel_rfl) (by kernel_rfl) (fun _ _ _ h=>h) (Or.inr ⟨by rfl,rfl⟩) hHeld ?_
     try simp only[pu]
     refine' wpAnyH_take (i:=16) (oi:=⟨some 38,_,_,_,_,_⟩) (v:=undef) rfl (by kernel_rfl) (by kernel_rfl) (by kernel_rfl) (fun _ _ _ h=>h) (Or.inr ⟨by rfl,rfl⟩) hHeld ?_
     try simp only[pu]
     refine' wpAnyH_take (i:=17) (oi:=⟨some 39,_,_,_,_,_⟩) (v:=_) rfl (by kernel_rfl) (by kernel_rfl) (by kernel_rfl) (fun _ _ _ h=>h) (Or.inl ⟨by rfl,?_⟩) hHeld ?_
     rotate_left
     ·(intro w' aa;(try dsimp only at aa);go_simp;(try with_reducible rfl))
     try simp only[pu]
     refine' wpAnyH_take (i:=18) (oi:=⟨some 40,_,_,_,_,_⟩) (v:=_) rfl (by kernel_rfl) (by kernel_rfl) (by kernel_rfl) (fun _ _ _ h=>h) (Or.inl ⟨by rfl,?_⟩) hHeld ?_
     rotate_left
     ·(intro w' aa;(try dsimp only at aa);go_simp;(try with_reducible rfl))
     try simp only[pu]
     refine' wpAnyH_take (i:=19) (oi:=⟨some 41,_,_,_,_,_⟩) (v:=_) rfl (by kernel_rfl) (by kernel_rfl) (by kernel_rfl) (fun _ _ _ h=>h) (Or.inl ⟨by rfl,?_⟩) hHeld ?_
     rotate_left
     ·(intro w' aa;(try dsimp only at aa);go_simp;(try with_reducible rfl))
     try simp only[pu]
     refine' wpAnyH_take (i:=20) (oi:=⟨some 42,_,_,_,_,_⟩) (v:=_) rfl (by kernel_rfl) (by kernel_rfl) (by kernel_rfl) (fun _ _ _ h=>h) (Or.inl ⟨by rfl,?_⟩) hHeld ?_
     rotate_left
     ·(intro w' aa;(try dsimp only at aa);go_simp;(try with_reducible rfl))
     try simp only[pu]
     refine' wpAnyH_take (i:=21) (oi:=⟨some 43,_,_,_,_,_⟩) (v:=_) rfl (by kernel_rfl) (by kernel_rfl) (by kernel_rfl) (fun _ _ _ h=>h) (Or.inl ⟨by rfl,?_⟩) hHeld ?_
     rotate_left
     ·(intro w' aa;(try dsimp only at aa);go_simp;(try with_reducible rfl))
     try simp only[pu]
     refine' wpAnyH_take (i:=22) (oi:=⟨some 44,_,_,_,_,_⟩) (v:=_) rfl (by kernel_rfl) (by kernel_rfl) (by kernel_rfl) (fun _ _ _ h=>h) (Or.inl ⟨by rfl,?_⟩) hHeld ?_
     rotate_left
     ·(intro w' aa;(try dsimp only at aa);go_simp;(try with_reducible rfl))
     try simp only[pu]
     refine wpAnyH_ready (rs:=[23]) (by kernel_rfl) (by simp) ?_
     refine AllReadyH.cons (i:=23) rfl (fun K hK=> ?_) AllReadyH.nil;go_simp
     (go_at_call 89;refine(ld.o _ (ay.o.trans hHeld.1)).mono ?_;rintro e de ⟨rfl,cX⟩)
     try go_wp2_with fail
     refine hK.out _ _ ?_ (fun hHeld=> ?_)
     ·exact eh.o _ _ hHeld cX
     clear hK K;try simp only[pu]
     refine' wpAnyH_take (i:=24) (oi:=⟨some 46,_,_,_,_,_⟩) (v:=_) rfl (by kernel_rfl) (by kernel_rfl) (by kernel_rfl) (fun _ _ _ h=>h) (Or.inl ⟨by rfl,?_⟩) hHeld ?_
     rotate_left
     ·(intro w' aa;(try dsimp only at aa);go_simp;(try with_reducible rfl))
     try simp only[pu]
     refine' wpAnyH_take (i:=25) (oi:=⟨some 47,_,_,_,_,_⟩) (v:=_) rfl (by kernel_rfl) (by kernel_rfl) (by kernel_rfl) (fun _ _ _ h=>h) (Or.inl ⟨by rfl,?_⟩) hHeld ?_
     rotate_left
     ·(intro w' aa;(try dsimp only at aa);go_simp;(try with_reducible rfl))
     try simp only[pu]
     refine wpAnyH_done (by kernel_rfl) ?_ _
     have gC:=J (ay.o.trans hHeld.1);clear hHeld eh;go_wp2_with fail;go_roundw
     case rel=>exact⟨0+1,by omega,by go_num,iv.o,gC.o⟩
     case measure=>simp[intOf]<;>omega
    ·have ar:=J (cT.o hz);rw[decide_eq_false hz]at ld;clear hz;have eh:Hid (∀w1 w2,(fun w':World=>Ext w7 w'/\w'.cell? ⟨nb,0,none⟩=some (.string s)/\w'.cell? ⟨nb,1,none⟩=some (.int .i64 z)) w1->Ext w1 w2->(fun w':World=>Ext w7 w'/\w'.cell? ⟨nb,0,none⟩=some (.string s)/\w'.cell? ⟨nb,1,none⟩=some (.int .i64 z)) w2):=J (fun w1 w2 h hx=>by
      obtain⟨p0,p1,p2⟩:=h;exact⟨p0.trans hx,hx.keep p1,hx.keep p2⟩)
     refine wp_region_held_drew (S:=fun w'=>Ext w7 w'/\w'.cell? ⟨nb,0,none⟩=some (.string s)/\w'.cell? ⟨nb,1,none⟩=some (.int .i64 z)) (by kernel_rfl) (by exact⟨(Ext.refl w7).drew,bX.o.1,bX.o.2⟩) (fun hHeld=> ?_);refine' wpAnyH_take (i:=0) (oi:=⟨some 22,_,_,_,_,_⟩) (v:=_) rfl (by kernel_rfl) (by kernel_rfl) (by kernel_rfl) (fun _ _ _ h=>h) (Or.inl ⟨by rfl,?_⟩) hHeld ?_
     rotate_left
     ·(intro w' aa;(try dsimp only at aa);go_simp;(try with_reducible rfl))
     try simp only[pu]
     refine' wpAnyH_take (i:=1) (oi:=⟨some 23,_,_,_,_,_⟩) (v:=_) rfl (by kernel_rfl) (by kernel_rfl) (by kernel_rfl) (fun _ _ _ h=>h) (Or.inl ⟨by rfl,?_⟩) hHeld ?_
     rotate_left
     ·(intro w' aa;(try dsimp only at aa);go_simp;(try with_reducible rfl))
     try simp only[pu]
     refine wpAnyH_ready (rs:=[2]) (by kernel_rfl) (by simp) ?_
     refine AllReadyH.cons (i:=2) rfl (fun K hK=> ?_) AllReadyH.nil;go_simp
     (go_at_call 99;refine(kD.o _).mono ?_;rintro e w8 ⟨rfl,bI⟩)
     try go_wp2_with fail
     refine hK.out _ _ ?_ (fun hHeld=> ?_)
     ·exact eh.o _ _ hHeld bI
     clear hK K;try simp only[pu]
     refine' wpAnyH_take (i:=3) (oi:=⟨some 25,_,_,_,_,_⟩) (v:=_) rfl (by kernel_rfl) (by kernel_rfl) (by kernel_rfl) (fun _ _ _ h=>h) (Or.inl ⟨by rfl,?_⟩) hHeld ?_
     rotate_left
     ·(intro w' aa;(try dsimp only at aa);go_simp;(try with_reducible rfl))
     try simp only[pu]
     refine' wpAnyH_take (i:=4) (oi:=⟨some 26,_,_,_,_,_⟩) (v:=_) rfl (by kernel_rfl) (by kernel_rfl) (by kernel_rfl) (fun _ _ _ h=>h) (Or.inl ⟨by rfl,?_⟩) hHeld ?_
     rotate_left
     ·(intro w' aa;(try dsimp only at aa);go_simp;(try with_reducible rfl))
     try simp only[pu]
     refine' wpAnyH_take (i:=5) (oi:=⟨some 27,_,_,_,_,_⟩) (v:=_) rfl (by kernel_rfl) (by kernel_rfl) (by kernel_rfl) (fun _ _ _ h=>h) (Or.inl ⟨by rfl,?_⟩) hHeld ?_
     rotate_left
     ·(intro w' aa;(try dsimp only at aa);go_simp;(try with_reducible rfl))
     try simp only[pu]
     refine' wpAnyH_take (i:=6) (oi:=⟨some 28,_,_,_,_,_⟩) (v:=_) rfl (by kernel_rfl) (by kernel_rfl) (by kernel_rfl) (fun _ _ _ h=>h) (Or.inl ⟨by rfl,?_⟩) hHeld ?_
     rotate_left
     ·(intro w' aa;(try dsimp only at aa);go_simp;(try with_reducible rfl))
     try simp only[pu]
     refine' wpAnyH_take (i:=7) (oi:=⟨some 29,_,_,_,_,_⟩) (v:=_) rfl (by kernel_rfl) (by kernel_rfl) (by kernel_rfl) (fun _ _ _ h=>h) (Or.inl ⟨by rfl,?_⟩) hHeld ?_
     rotate_left
     ·(intro w' aa;(try dsimp only at aa);go_simp;(try with_reducible rfl))
     try simp only[pu]
     refine' wpAnyH_take (i:=8) (oi:=⟨some 30,_,_,_,_,_⟩) (v:=undef) rfl (by kernel_rfl) (by kernel_rfl) (by kernel_rfl) (fun _ _ _ h=>h) (Or.inr ⟨by rfl,rfl⟩) hHeld ?_
     try simp only[pu]
     refine' wpAnyH_take (i:=9) (oi:=⟨some 31,_,_,_,_,_⟩) (v:=undef) rfl (by kernel_rfl) (by kernel_rfl) (by kernel_rfl) (fun _ _ _ h=>h) (Or.inr ⟨by rfl,rfl⟩) hHeld ?_
     try simp only[pu]
     refine' wpAnyH_take (i:=10) (oi:=⟨some 32,_,_,_,_,_⟩) (v:=undef) rfl (by kernel_rfl) (by kernel_rfl) (by kernel_rfl) (fun _ _ _ h=>h) (Or.inr ⟨by rfl,rfl⟩) hHeld ?_
     try simp only[pu]
     refine' wpAnyH_take (i:=11) (oi:=⟨some 33,_,_,_,_,_⟩) (v:=undef) rfl (by kernel_rfl) (by kernel_rfl) (by kernel_rfl) (fun _ _ _ h=>h) (Or.inr ⟨by rfl,rfl⟩) hHeld ?_
     try simp only[pu]
     refine' wpAnyH_take (i:=12) (oi:=⟨some 34,_,_,_,_,_⟩) (v:=undef) rfl (by kernel_rfl) (by kernel_rfl) (by kernel_rfl) (fun _ _ _ h=>h) (Or.inr ⟨by rfl,rfl⟩) hHeld ?_
     try simp only[pu]
     refine' wpAnyH_take (i:=13) (oi:=⟨some 35,_,_,_,_,_⟩) (v:=undef) rfl (by kernel_rfl) (by kernel_rfl) (by kernel_rfl) (fun _ _ _ h=>h) (Or.inr ⟨by rfl,rfl⟩) hHeld ?_
     try simp only[pu]
     refine' wpAnyH_take (i:=14) (oi:=⟨some 36,_,_,_,_,_⟩) (v:=undef) rfl (by kernel_rfl) (by kernel_rfl) (by kernel_rfl) (fun _ _ _ h=>h) (Or.inr ⟨by rfl,rfl⟩) hHeld ?_
     try simp only[pu]
     refine' wpAnyH_take (i:=15) (oi:=⟨some 37,_,_,_,_,_⟩) (v:=undef) rfl (by kernel_rfl) (by kernel_rfl) (by kernel_rfl) (fun _ _ _ h=>h) (Or.inr ⟨by rfl,rfl⟩) hHeld ?_
     try simp only[pu]
     refine' wpAnyH_take (i:=16) (oi:=⟨some 38,_,_,_,_,_⟩) (v:=undef) rfl (by kernel_rfl) (by kernel_rfl) (by kernel_rfl) (fun _ _ _ h=>h) (Or.inr ⟨by rfl,rfl⟩) hHeld ?_
     try simp only[pu]
     refine' wpAnyH_take (i:=17) (oi:=⟨some 39,_,_,_,_,_⟩) (v:=_) rfl (by kernel_rfl) (by kernel_rfl) (by kernel_rfl) (fun _ _ _ h=>h) (Or.inl ⟨by rfl,?_⟩) hHeld ?_
     rotate_left
     ·(intro w' aa;(try dsimp only at aa);go_simp;(try with_reducible rfl))
     try simp only[pu]
     refine' wpAnyH_take (i:=18) (oi:=⟨some 40,_,_,_,_,_⟩) (v:=_) rfl (by kernel_rfl) (by kernel_rfl) (by kernel_rfl) (fun _ _ _ h=>h) (Or.inl ⟨by rfl,?_⟩) hHeld ?_
     rotate_left
     ·(intro w' aa;(try dsimp only at aa);go_simp;(try with_reducible rfl))
     try simp only[pu]
     refine' wpAnyH_take (i:=19) (oi:=⟨some 41,_,_,_,_,_⟩) (v:=_) rfl (by kernel_rfl) (by kernel_rfl) (by kernel_rfl) (fun _ _ _ h=>h) (Or.inl ⟨by rfl,?_⟩) hHeld ?_
     rotate_left
     ·(intro w' aa;(try dsimp only at aa);go_simp;(try with_reducible rfl))
     try simp only[pu]
     refine' wpAnyH_take (i:=20) (oi:=⟨some 42,_,_,_,_,_⟩) (v:=_) rfl (by kernel_rfl) (by kernel_rfl) (by kernel_rfl) (fun _ _ _ h=>h) (Or.inl ⟨by rfl,?_⟩) hHeld ?_
     rotate_left
     ·(intro w' aa;(try dsimp only at aa);go_simp;(try with_reducible rfl))
     try simp only[pu]
     refine' wpAnyH_take (i:=21) (oi:=⟨some 43,_,_,_,_,_⟩) (v:=_) rfl (by kernel_rfl) (by kernel_rfl) (by kernel_rfl) (fun _ _ _ h=>h) (Or.inl ⟨by rfl,?_⟩) hHeld ?_
     rotate_left
     ·(intro w' aa;(try dsimp only at aa);go_simp;(try with_reducible rfl))
     try simp only[pu]
     refine' wpAnyH_take (i:=22) (oi:=⟨some 44,_,_,_,_,_⟩) (v:=_) rfl (by kernel_rfl) (by kernel_rfl) (by kernel_rfl) (fun _ _ _ h=>h) (Or.inl ⟨by rfl,?_⟩) hHeld ?_
     rotate_left
     ·(intro w' aa;(try dsimp only at aa);go_simp;(try with_reducible rfl))
     try simp only[pu]
     refine wpAnyH_ready (rs:=[23]) (by kernel_rfl) (by simp) ?_
     refine AllReadyH.cons (i:=23) rfl (fun K hK=> ?_) AllReadyH.nil;go_simp
     (go_at_call 89;refine(ld.o _ (ay.o.trans hHeld.1)).mono ?_;rintro e de ⟨rfl,cX⟩)
     try go_wp2_with fail
     refine hK.out _ _ ?_ (fun hHeld=> ?_)
     ·exact eh.o _ _ hHeld cX
     clear hK K;try simp only[pu]
     refine' wpAnyH_take (i:=24) (oi:=⟨some 46,_,_,_,_,_⟩) (v:=_) rfl (by kernel_rfl) (by kernel_rfl) (by kernel_rfl) (fun _ _ _ h=>h) (Or.inl ⟨by rfl,?_⟩) hHeld ?_
     rotate_left
     ·(intro w' aa;(try dsimp only at aa);go_simp;(try with_reducible rfl))
     try simp only[pu]
     refine' wpAnyH_take (i:=25) (oi:=⟨some 47,_,_,_,_,_⟩) (v:=_) rfl (by kernel_rfl) (by kernel_rfl) (by kernel_rfl) (fun _ _ _ h=>h) (Or.inl ⟨by rfl,?_⟩) hHeld ?_
     rotate_left
     ·(intro w' aa;(try dsimp only at aa);go_simp;(try with_reducible rfl))
     try simp only[pu]
     refine wpAnyH_done (by kernel_rfl) ?_ _
     have gC:=J (ay.o.trans hHeld.1);clear hHeld eh;go_wp2_with fail;go_ret;exact⟨false,rfl,⟨(fun h=>by cases h),fun h=>absurd h ar.o⟩,gC.o⟩
   have jZ:=J dS;have k7:=J dp;clear dS dp eO;generalize env[p].1=tp at *;obtain⟨sp,mR⟩:∃sp:ByteArray,str tp= .string sp:=⟨_,rfl⟩;rw[mR]at hpc;have nN:=G5 mR i2.o;have t7:=J hpc;have zh:IntKind.i64.wrap (((p+1:Nat):Int)-1)=(p:Int):=by rw[IntWalk.i64_in _ (by omega)];omega
   have zg:IntKind.i64.wrap ((p:Int)+1-1)=(p:Int):=by rw[IntWalk.i64_in _ (by omega)];omega
   have ze:IntKind.i64.wrap (p:Int)=(p:Int):=IntWalk.i64_in _ (by omega);have hp0:(0:Int)<=(p:Int):=by omega
   have gN:(p:Int)<(n:Int):=by omega
   have jh:decide (((p+1:Nat):Int)>0)=true:=decide_eq_true (by omega);have zN:decide ((p:Int)+1>0)=true:=decide_eq_true (by omega);clear mR hpc hp;by_cases hl:tp<t;rotate_left
   ·have ar:=J (k7.o hl);rw[decide_eq_false hl]at nN;clear hl;have eh:Hid (∀w1 w2,(fun w':World=>Ext w7 w'/\w'.cell? ⟨nb,0,none⟩=some (.string s)/\w'.cell? ⟨nb,1,none⟩=some (.int .i64 z)/\w'.cell? ⟨gb,o+p*2,none⟩=some (.string sp)) w1->Ext w1 w2->(fun w':World=>Ext w7 w'/\w'.cell? ⟨nb,0,none⟩=some (.string s)/\w'.cell? ⟨nb,1,none⟩=some (.int .i64 z)/\w'.cell? ⟨gb,o+p*2,none⟩=some (.string sp)) w2):=J (fun w1 w2 h hx=>by
     obtain⟨p0,p1,p2,p3⟩:=h;exact⟨p0.trans hx,hx.keep p1,hx.keep p2,hx.keep p3⟩)
    refine wp_region_held_drew (S:=fun w'=>Ext w7 w'/\w'.cell? ⟨nb,0,none⟩=some (.string s)/\w'.cell? ⟨nb,1,none⟩=some (.int .i64 z)/\w'.cell? ⟨gb,o+p*2,none⟩=some (.string sp)) (by kernel_rfl) (by exact⟨(Ext.refl w7).drew,bX.o.1,bX.o.2,ay.o.keep t7.o⟩) (fun hHeld=> ?_);refine' wpAnyH_take (i:=0) (oi:=⟨some 22,_,_,_,_,_⟩) (v:=_) rfl (by kernel_rfl) (by kernel_rfl) (by kernel_rfl) (fun _ _ _ h=>h) (Or.inl ⟨by rfl,?_⟩) hHeld ?_
    rotate_left
    ·(intro w' aa;(try dsimp only at aa);go_simp;(try with_reducible rfl))
    try simp only[pu]
    refine' wpAnyH_take (i:=1) (oi:=⟨some 23,_,_,_,_,_⟩) (v:=_) rfl (by kernel_rfl) (by kernel_rfl) (by kernel_rfl) (fun _ _ _ h=>h) (Or.inl ⟨by rfl,?_⟩) hHeld ?_
    rotate_left
    ·(intro w' aa;(try dsimp only at aa);go_simp;(try with_reducible rfl))
    try simp only[pu]
    refine wpAnyH_ready (rs:=[2]) (by kernel_rfl) (by simp) ?_
    refine AllReadyH.cons (i:=2) rfl (fun K hK=> ?_) AllReadyH.nil;go_simp
    (go_at_call 99;refine(kD.o _).mono ?_;rintro e w8 ⟨rfl,bI⟩)
    try go_wp2_with fail
    refine hK.out _ _ ?_ (fun hHeld=> ?_)
    ·exact eh.o _ _ hHeld bI
    clear hK K;try simp only[pu]
    refine' wpAnyH_take (i:=3) (oi:=⟨some 25,_,_,_,_,_⟩) (v:=_) rfl (by kernel_rfl) (by kernel_rfl) (by kernel_rfl) (fun _ _ _ h=>h) (Or.inl ⟨by rfl,?_⟩) hHeld ?_
    rotate_left
    ·(intro w' aa;(try dsimp only at aa);go_simp;(try with_reducible rfl))
    try simp only[pu]
    refine' wpAnyH_take (i:=4) (oi:=⟨some 26,_,_,_,_,_⟩) (v:=_) rfl (by kernel_rfl) (by kernel_rfl) (by kernel_rfl) (fun _ _ _ h=>h) (Or.inl ⟨by rfl,?_⟩) hHeld ?_
    rotate_left
    ·(intro w' aa;(try dsimp only at aa);go_simp;(try with_reducible rfl))
    try simp only[pu]
    refine' wpAnyH_take (i:=5) (oi:=⟨some 27,_,_,_,_,_⟩) (v:=_) rfl (by kernel_rfl) (by kernel_rfl) (by kernel_rfl) (fun _ _ _ h=>h) (Or.inl ⟨by rfl,?_⟩) hHeld ?_
    rotate_left
    ·(intro w' aa;(try dsimp only at aa);go_simp;(try with_reducible rfl))
    try simp only[pu]
    refine' wpAnyH_take (i:=6) (oi:=⟨some 28,_,_,_,_,_⟩) (v:=_) rfl (by kernel_rfl) (by kernel_rfl) (by kernel_rfl) (fun _ _ _ h=>h) (Or.inl ⟨by rfl,?_⟩) hHeld ?_
    rotate_left
    ·(intro w' aa;(try dsimp only at aa);go_simp;(try with_reducible rfl))
    try simp only[pu]
    refine' wpAnyH_take (i:=7) (oi:=⟨some 29,_,_,_,_,_⟩) (v:=_) rfl (by kernel_rfl) (by kernel_rfl) (by kernel_rfl) (fun _ _ _ h=>h) (Or.inl ⟨by rfl,?_⟩) hHeld ?_
    rotate_left
    ·(intro w' aa;(try dsimp only at aa);go_simp;(try with_reducible rfl))
    try simp only[pu]
    refine' wpAnyH_take (i:=8) (oi:=⟨some 30,_,_,_,_,_⟩) (v:=_) rfl (by kernel_rfl) (by kernel_rfl) (by kernel_rfl) (fun _ _ _ h=>h) (Or.inl ⟨by rfl,?_⟩) hHeld ?_
    rotate_left
    ·(intro w' aa;(try dsimp only at aa);go_simp;(try with_reducible rfl))
    try simp only[pu]
    refine' wpAnyH_take (i:=9) (oi:=⟨some 31,_,_,_,_,_⟩) (v:=_) rfl (by kernel_rfl) (by kernel_rfl) (by kernel_rfl) (fun _ _ _ h=>h) (Or.inl ⟨by rfl,?_⟩) hHeld ?_
    rotate_left
    ·(intro w' aa;(try dsimp only at aa);go_simp;(try with_reducible rfl))
    try simp only[pu]
    refine' wpAnyH_take (i:=10) (oi:=⟨some 32,_,_,_,_,_⟩) (v:=_) rfl (by kernel_rfl) (by kernel_rfl) (by kernel_rfl) (fun _ _ _ h=>h) (Or.inl ⟨by rfl,?_⟩) hHeld ?_
    rotate_left
    ·(intro w' aa;(try dsimp only at aa);go_simp;(try with_reducible rfl))
    try simp only[pu]
    refine' wpAnyH_take (i:=11) (oi:=⟨some 33,_,_,_,_,_⟩) (v:=_) rfl (by kernel_rfl) (by kernel_rfl) (by kernel_rfl) (fun _ _ _ h=>h) (Or.inl ⟨by rfl,?_⟩) hHeld ?_
    rotate_left
    ·(intro w' aa;(try dsimp only at aa);go_simp;(try with_reducible rfl))
    try simp only[pu]
    refine' wpAnyH_take (i:=12) (oi:=⟨some 34,_,_,_,_,_⟩) (v:=_) rfl (by kernel_rfl) (by kernel_rfl) (by kernel_rfl) (fun _ _ _ h=>h) (Or.inl ⟨by rfl,?_⟩) hHeld ?_
    rotate_left
    ·(intro w' aa;(try dsimp only at aa);go_simp;(try with_reducible rfl))
    try simp only[pu]
    refine' wpAnyH_take (i:=13) (oi:=⟨some 35,_,_,_,_,_⟩) (v:=_) rfl (by kernel_rfl) (by kernel_rfl) (by kernel_rfl) (fun _ _ _ h=>h) (Or.inl ⟨by rfl,?_⟩) hHeld ?_
    rotate_left
    ·(intro w' aa;(try dsimp only at aa);go_simp;(try with_reducible rfl))
    try simp only[pu]
    refine' wpAnyH_take (i:=14) (oi:=⟨some 36,_,_,_,_,_⟩) (v:=_) rfl (by kernel_rfl) (by kernel_rfl) (by kernel_rfl) (fun _ _ _ h=>h) (Or.inl ⟨by rfl,?_⟩) hHeld ?_
    rotate_left
    ·(intro w' aa;(try dsimp only at aa);go_simp;(try with_reducible rfl))
    try simp only[pu]
    refine' wpAnyH_take (i:=15) (oi:=⟨some 37,_,_,_,_,_⟩) (v:=_) rfl (by kernel_rfl) (by kernel_rfl) (by kernel_rfl) (fun _ _ _ h=>h) (Or.inl ⟨by rfl,?_⟩) hHeld ?_
    rotate_left
    ·(intro w' aa;(try dsimp only at aa);go_simp;(try with_reducible rfl))
    try simp only[pu]
    refine' wpAnyH_take (i:=16) (oi:=⟨some 38,_,_,_,_,_⟩) (v:=_) rfl (by kernel_rfl) (by kernel_rfl) (by kernel_rfl) (fun _ _ _ h=>h) (Or.inl ⟨by rfl,?_⟩) hHeld ?_
    rotate_left
    ·(intro w' aa;(try dsimp only at aa);go_simp;(try with_reducible rfl))
    try simp only[pu]
    refine' wpAnyH_take (i:=17) (oi:=⟨some 39,_,_,_,_,_⟩) (v:=_) rfl (by kernel_rfl) (by kernel_rfl) (by kernel_rfl) (fun _ _ _ h=>h) (Or.inl ⟨by rfl,?_⟩) hHeld ?_
    rotate_left
    ·(intro w' aa;(try dsimp only at aa);go_simp;(try with_reducible rfl))
    try simp only[pu]
    refine' wpAnyH_take (i:=18) (oi:=⟨some 40,_,_,_,_,_⟩) (v:=_) rfl (by kernel_rfl) (by kernel_rfl) (by kernel_rfl) (fun _ _ _ h=>h) (Or.inl ⟨by rfl,?_⟩) hHeld ?_
    rotate_left
    ·(intro w' aa;(try dsimp only at aa);go_simp;(try with_reducible rfl))
    try simp only[pu]
    refine' wpAnyH_take (i:=19) (oi:=⟨some 41,_,_,_,_,_⟩) (v:=_) rfl (by kernel_rfl) (by kernel_rfl) (by kernel_rfl) (fun _ _ _ h=>h) (Or.inl ⟨by rfl,?_⟩) hHeld ?_
    rotate_left
    ·(intro w' aa;(try dsimp only at aa);go_simp;(try with_reducible rfl))
    try simp only[pu]
    refine' wpAnyH_take (i:=20) (oi:=⟨some 42,_,_,_,_,_⟩) (v:=undef) rfl (by kernel_rfl) (by kernel_rfl) (by kernel_rfl) (fun _ _ _ h=>h) (Or.inr ⟨by rfl,rfl⟩) hHeld ?_
    try simp only[pu]
    refine' wpAnyH_take (i:=21) (oi:=⟨some 43,_,_,_,_,_⟩) (v:=undef) rfl (by kernel_rfl) (by kernel_rfl) (by kernel_rfl) (fun _ _ _ h=>h) (Or.inr ⟨by rfl,rfl⟩) hHeld ?_
    try simp only[pu]
    refine' wpAnyH_take (i:=22) (oi:=⟨some 44,_,_,_,_,_⟩) (v:=undef) rfl (by kernel_rfl) (by kernel_rfl) (by kernel_rfl) (fun _ _ _ h=>h) (Or.inr ⟨by rfl,rfl⟩) hHeld ?_
    try simp only[pu]
    refine' wpAnyH_take (i:=23) (oi:=⟨some 45,_,_,_,_,_⟩) (v:=undef) rfl (by kernel_rfl) (by kernel_rfl) (by kernel_rfl) (fun _ _ _ h=>h) (Or.inr ⟨by rfl,rfl⟩) hHeld ?_
    try simp only[pu]
    refine' wpAnyH_take (i:=24) (oi:=⟨some 46,_,_,_,_,_⟩) (v:=undef) rfl (by kernel_rfl) (by kernel_rfl) (by kernel_rfl) (fun _ _ _ h=>h) (Or.inr ⟨by rfl,rfl⟩) hHeld ?_
    try simp only[pu]
    refine' wpAnyH_take (i:=25) (oi:=⟨some 47,_,_,_,_,_⟩) (v:=_) rfl (by kernel_rfl) (by kernel_rfl) (by kernel_rfl) (fun _ _ _ h=>h) (Or.inl ⟨by rfl,?_⟩) hHeld ?_
    rotate_left
    ·(intro w' aa;(try dsimp only at aa);go_simp;(try with_reducible rfl))
    try simp only[pu]
    refine wpAnyH_done (by kernel_rfl) ?_ _
    have gC:=J (ay.o.trans hHeld.1);clear hHeld eh;go_wp2_with fail;go_ret;exact⟨false,rfl,⟨(fun h=>by cases h),fun h=>absurd h ar.o⟩,gC.o⟩
   rw[decide_eq_true hl]at nN;by_cases hz:0<=z/\z<(ns.length:Int)
   ·have iv:=J (aF.o qc.o hz (jZ.o hl));rw[decide_eq_true hz]at ld;clear hz hl;have eh:Hid (∀w1 w2,(fun w':World=>Ext w7 w'/\w'.cell? ⟨nb,0,none⟩=some (.string s)/\w'.cell? ⟨nb,1,none⟩=some (.int .i64 z)/\w'.cell? ⟨gb,o+p*2,none⟩=some (.string sp)) w1->Ext w1 w2->(fun w':World=>Ext w7 w'/\w'.cell? ⟨nb,0,none⟩=some (.string s)/\w'.cell? ⟨nb,1,none⟩=some (.int .i64 z)/\w'.cell? ⟨gb,o+p*2,none⟩=some (.string sp)) w2):=J (fun w1 w2 h hx=>by
     obtain⟨p0,p1,p2,p3⟩:=h;exact⟨p0.trans hx,hx.keep p1,hx.keep p2,hx.keep p3⟩)
    refine wp_region_held_drew (S:=fun w'=>Ext w7 w'/\w'.cell? ⟨nb,0,none⟩=some (.string s)/\w'.cell? ⟨nb,1,none⟩=some (.int .i64 z)/\w'.cell? ⟨gb,o+p*2,none⟩=some (.string sp)) (by kernel_rfl) (by exact⟨(Ext.refl w7).drew,bX.o.1,bX.o.2,ay.o.keep t7.o⟩) (fun hHeld=> ?_);refine' wpAnyH_take (i:=0) (oi:=⟨some 22,_,_,_,_,_⟩) (v:=_) rfl (by kernel_rfl) (by kernel_rfl) (by kernel_rfl) (fun _ _ _ h=>h) (Or.inl ⟨by rfl,?_⟩) hHeld ?_
    rotate_left
    ·(intro w' aa;(try dsimp only at aa);go_simp;(try with_reducible rfl))
    try simp only[pu]
    refine' wpAnyH_take (i:=1) (oi:=⟨some 23,_,_,_,_,_⟩) (v:=_) rfl (by kernel_rfl) (by kernel_rfl) (by kernel_rfl) (fun _ _ _ h=>h) (Or.inl ⟨by rfl,?_⟩) hHeld ?_
    rotate_left
    ·(intro w' aa;(try dsimp only at aa);go_simp;(try with_reducible rfl))
    try simp only[pu]
    refine wpAnyH_ready (rs:=[2]) (by kernel_rfl) (by simp) ?_
    refine AllReadyH.cons (i:=2) rfl (fun K hK=> ?_) AllReadyH.nil;go_simp
    (go_at_call 99;refine(kD.o _).mono ?_;rintro e w8 ⟨rfl,bI⟩)
    try go_wp2_with fail
    refine hK.out _ _ ?_ (fun hHeld=> ?_)
    ·exact eh.o _ _ hHeld bI
    clear hK K;try simp only[pu]
    refine' wpAnyH_take (i:=3) (oi:=⟨some 25,_,_,_,_,_⟩) (v:=_) rfl (by kernel_rfl) (by kernel_rfl) (by kernel_rfl) (fun _ _ _ h=>h) (Or.inl ⟨by rfl,?_⟩) hHeld ?_
    rotate_left
    ·(intro w' aa;(try dsimp only at aa);go_simp;(try with_reducible rfl))
    try simp only[pu]
    refine' wpAnyH_take (i:=4) (oi:=⟨some 26,_,_,_,_,_⟩) (v:=_) rfl (by kernel_rfl) (by kernel_rfl) (by kernel_rfl) (fun _ _ _ h=>h) (Or.inl ⟨by rfl,?_⟩) hHeld ?_
    rotate_left
    ·(intro w' aa;(try dsimp only at aa);go_simp;(try with_reducible rfl))
    try simp only[pu]
    refine' wpAnyH_take (i:=5) (oi:=⟨some 27,_,_,_,_,_⟩) (v:=_) rfl (by kernel_rfl) (by kernel_rfl) (by kernel_rfl) (fun _ _ _ h=>h) (Or.inl ⟨by rfl,?_⟩) hHeld ?_
    rotate_left
    ·(intro w' aa;(try dsimp only at aa);go_simp;(try with_reducible rfl))
    try simp only[pu]
    refine' wpAnyH_take (i:=6) (oi:=⟨some 28,_,_,_,_,_⟩) (v:=_) rfl (by kernel_rfl) (by kernel_rfl) (by kernel_rfl) (fun _ _ _ h=>h) (Or.inl ⟨by rfl,?_⟩) hHeld ?_
    rotate_left
    ·(intro w' aa;(try dsimp only at aa);go_simp;(try with_reducible rfl))
    try simp only[pu]
    refine' wpAnyH_take (i:=7) (oi:=⟨some 29,_,_,_,_,_⟩) (v:=_) rfl (by kernel_rfl) (by kernel_rfl) (by kernel_rfl) (fun _ _ _ h=>h) (Or.inl ⟨by rfl,?_⟩) hHeld ?_
    rotate_left
    ·(intro w' aa;(try dsimp only at aa);go_simp;(try with_reducible rfl))
    try simp only[pu]
    refine' wpAnyH_take (i:=8) (oi:=⟨some 30,_,_,_,_,_⟩) (v:=_) rfl (by kernel_rfl) (by kernel_rfl) (by kernel_rfl) (fun _ _ _ h=>h) (Or.inl ⟨by rfl,?_⟩) hHeld ?_
    rotate_left
    ·(intro w' aa;(try dsimp only at aa);go_simp;(try with_reducible rfl))
    try simp only[pu]
    refine' wpAnyH_take (i:=9) (oi:=⟨some 31,_,_,_,_,_⟩) (v:=_) rfl (by kernel_rfl) (by kernel_rfl) (by kernel_rfl) (fun _ _ _ h=>h) (Or.inl ⟨by rfl,?_⟩) hHeld ?_
    rotate_left
    ·(intro w' aa;(try dsimp only at aa);go_simp;(try with_reducible rfl))
    try simp only[pu]
    refine' wpAnyH_take (i:=10) (oi:=⟨some 32,_,_,_,_,_⟩) (v:=_) rfl (by kernel_rfl) (by kernel_rfl) (by kernel_rfl) (fun _ _ _ h=>h) (Or.inl ⟨by rfl,?_⟩) hHeld ?_
    rotate_left
    ·(intro w' aa;(try dsimp only at aa);go_simp;(try with_reducible rfl))
    try simp only[pu]
    refine' wpAnyH_take (i:=11) (oi:=⟨some 33,_,_,_,_,_⟩) (v:=_) rfl (by kernel_rfl) (by kernel_rfl) (by kernel_rfl) (fun _ _ _ h=>h) (Or.inl ⟨by rfl,?_⟩) hHeld ?_
    rotate_left
    ·(intro w' aa;(try dsimp only at aa);go_simp;(try with_reducible rfl))
    try simp only[pu]
    refine' wpAnyH_take (i:=12) (oi:=⟨some 34,_,_,_,_,_⟩) (v:=_) rfl (by kernel_rfl) (by kernel_rfl) (by kernel_rfl) (fun _ _ _ h=>h) (Or.inl ⟨by rfl,?_⟩) hHeld ?_
    rotate_left
    ·(intro w' aa;(try dsimp only at aa);go_simp;(try with_reducible rfl))
    try simp only[pu]
    refine' wpAnyH_take (i:=13) (oi:=⟨some 35,_,_,_,_,_⟩) (v:=_) rfl (by kernel_rfl) (by kernel_rfl) (by kernel_rfl) (fun _ _ _ h=>h) (Or.inl ⟨by rfl,?_⟩) hHeld ?_
    rotate_left
    ·(intro w' aa;(try dsimp only at aa);go_simp;(try with_reducible rfl))
    try simp only[pu]
    refine' wpAnyH_take (i:=14) (oi:=⟨some 36,_,_,_,_,_⟩) (v:=_) rfl (by kernel_rfl) (by kernel_rfl) (by kernel_rfl) (fun _ _ _ h=>h) (Or.inl ⟨by rfl,?_⟩) hHeld ?_
    rotate_left
    ·(intro w' aa;(try dsimp only at aa);go_simp;(try with_reducible rfl))
    try simp only[pu]
    refine' wpAnyH_take (i:=15) (oi:=⟨some 37,_,_,_,_,_⟩) (v:=_) rfl (by kernel_rfl) (by kernel_rfl) (by kernel_rfl) (fun _ _ _ h=>h) (Or.inl ⟨by rfl,?_⟩) hHeld ?_
    rotate_left
    ·(intro w' aa;(try dsimp only at aa);go_simp;(try with_reducible rfl))
    try simp only[pu]
    refine' wpAnyH_take (i:=16) (oi:=⟨some 38,_,_,_,_,_⟩) (v:=_) rfl (by kernel_rfl) (by kernel_rfl) (by kernel_rfl) (fun _ _ _ h=>h) (Or.inl ⟨by rfl,?_⟩) hHeld ?_
    rotate_left
    ·(intro w' aa;(try dsimp only at aa);go_simp;(try with_reducible rfl))
    try simp only[pu]
    refine' wpAnyH_take (i:=17) (oi:=⟨some 39,_,_,_,_,_⟩) (v:=_) rfl (by kernel_rfl) (by kernel_rfl) (by kernel_rfl) (fun _ _ _ h=>h) (Or.inl ⟨by rfl,?_⟩) hHeld ?_
    rotate_left
    ·(intro w' aa;(try dsimp only at aa);go_simp;(try with_reducible rfl))
    try simp only[pu]
    refine' wpAnyH_take (i:=18) (oi:=⟨some 40,_,_,_,_,_⟩) (v:=_) rfl (by kernel_rfl) (by kernel_rfl) (by kernel_rfl) (fun _ _ _ h=>h) (Or.inl ⟨by rfl,?_⟩) hHeld ?_
    rotate_left
    ·(intro w' aa;(try dsimp only at aa);go_simp;(try with_reducible rfl))
    try simp only[pu]
    refine' wpAnyH_take (i:=19) (oi:=⟨some 41,_,_,_,_,_⟩) (v:=_) rfl (by kernel_rfl) (by kernel_rfl) (by kernel_rfl) (fun _ _ _ h=>h) (Or.inl ⟨by rfl,?_⟩) hHeld ?_
    rotate_left
    ·(intro w' aa;(try dsimp only at aa);go_simp;(try with_reducible rfl))
    try simp only[pu]
    refine' wpAnyH_take (i:=20) (oi:=⟨some 42,_,_,_,_,_⟩) (v:=_) rfl (by kernel_rfl) (by kernel_rfl) (by kernel_rfl) (fun _ _ _ h=>h) (Or.inl ⟨by rfl,?_⟩) hHeld ?_
    rotate_left
    ·(intro w' aa;(try dsimp only at aa);go_simp;(try with_reducible rfl))
    try simp only[pu]
    refine' wpAnyH_take (i:=21) (oi:=⟨some 43,_,_,_,_,_⟩) (v:=_) rfl (by kernel_rfl) (by kernel_rfl) (by kernel_rfl) (fun _ _ _ h=>h) (Or.inl ⟨by rfl,?_⟩) hHeld ?_
    rotate_left
    ·(intro w' aa;(try dsimp only at aa);go_simp;(try with_reducible rfl))
    try simp only[pu]
    refine' wpAnyH_take (i:=22) (oi:=⟨some 44,_,_,_,_,_⟩) (v:=_) rfl (by kernel_rfl) (by kernel_rfl) (by kernel_rfl) (fun _ _ _ h=>h) (Or.inl ⟨by rfl,?_⟩) hHeld ?_
    rotate_left
    ·(intro w' aa;(try dsimp only at aa);go_simp;(try with_reducible rfl))
    try simp only[pu]
    refine wpAnyH_ready (rs:=[23]) (by kernel_rfl) (by simp) ?_
    refine AllReadyH.cons (i:=23) rfl (fun K hK=> ?_) AllReadyH.nil;go_simp
    (go_at_call 89;refine(ld.o _ (ay.o.trans hHeld.1)).mono ?_;rintro e de ⟨rfl,cX⟩)
    try go_wp2_with fail
    refine hK.out _ _ ?_ (fun hHeld=> ?_)
    ·exact eh.o _ _ hHeld cX
    clear hK K;try simp only[pu]
    refine' wpAnyH_take (i:=24) (oi:=⟨some 46,_,_,_,_,_⟩) (v:=_) rfl (by kernel_rfl) (by kernel_rfl) (by kernel_rfl) (fun _ _ _ h=>h) (Or.inl ⟨by rfl,?_⟩) hHeld ?_
    rotate_left
    ·(intro w' aa;(try dsimp only at aa);go_simp;(try with_reducible rfl))
    try simp only[pu]
    refine' wpAnyH_take (i:=25) (oi:=⟨some 47,_,_,_,_,_⟩) (v:=_) rfl (by kernel_rfl) (by kernel_rfl) (by kernel_rfl) (fun _ _ _ h=>h) (Or.inl ⟨by rfl,?_⟩) hHeld ?_
    rotate_left
    ·(intro w' aa;(try dsimp only at aa);go_simp;(try with_reducible rfl))
    try simp only[pu]
    refine wpAnyH_done (by kernel_rfl) ?_ _
    have gC:=J (ay.o.trans hHeld.1);clear hHeld eh;go_wp2_with fail;go_roundw
    case rel=>exact⟨(p+1)+1,by omega,by go_num,iv.o,gC.o⟩
    case measure=>simp[intOf]<;>omega
   ·have ar:=J (cT.o hz);rw[decide_eq_false hz]at ld;clear hz hl;have eh:Hid (∀w1 w2,(fun w':World=>Ext w7 w'/\w'.cell? ⟨nb,0,none⟩=some (.string s)/\w'.cell? ⟨nb,1,none⟩=some (.int .i64 z)/\w'.cell? ⟨gb,o+p*2,none⟩=some (.string sp)) w1->Ext w1 w2->(fun w':World=>Ext w7 w'/\w'.cell? ⟨nb,0,none⟩=some (.string s)/\w'.cell? ⟨nb,1,none⟩=some (.int .i64 z)/\w'.cell? ⟨gb,o+p*2,none⟩=some (.string sp)) w2):=J (fun w1 w2 h hx=>by
     obtain⟨p0,p1,p2,p3⟩:=h;exact⟨p0.trans hx,hx.keep p1,hx.keep p2,hx.keep p3⟩)
    refine wp_region_held_drew (S:=fun w'=>Ext w7 w'/\w'.cell? ⟨nb,0,none⟩=some (.string s)/\w'.cell? ⟨nb,1,none⟩=some (.int .i64 z)/\w'.cell? ⟨gb,o+p*2,none⟩=some (.string sp)) (by kernel_rfl) (by exact⟨(Ext.refl w7).drew,bX.o.1,bX.o.2,ay.o.keep t7.o⟩) (fun hHeld=> ?_);refine' wpAnyH_take (i:=0) (oi:=⟨some 22,_,_,_,_,_⟩) (v:=_) rfl (by kernel_rfl) (by kernel_rfl) (by kernel_rfl) (fun _ _ _ h=>h) (Or.inl ⟨by rfl,?_⟩) hHeld ?_
    rotate_left
    ·(intro w' aa;(try dsimp only at aa);go_simp;(try with_reducible rfl))
    try simp only[pu]
    refine' wpAnyH_take (i:=1) (oi:=⟨some 23,_,_,_,_,_⟩) (v:=_) rfl (by kernel_rfl) (by kernel_rfl) (by kernel_rfl) (fun _ _ _ h=>h) (Or.inl ⟨by rfl,?_⟩) hHeld ?_
    rotate_left
    ·(intro w' aa;(try dsimp only at aa);go_simp;(try with_reducible rfl))
    try simp only[pu]
    refine wpAnyH_ready (rs:=[2]) (by kernel_rfl) (by simp) ?_
    refine AllReadyH.cons (i:=2) rfl (fun K hK=> ?_) AllReadyH.nil;go_simp
    (go_at_call 99;refine(kD.o _).mono ?_;rintro e w8 ⟨rfl,bI⟩)
    try go_wp2_with fail
    refine hK.out _ _ ?_ (fun hHeld=> ?_)
    ·exact eh.o _ _ hHeld bI
    clear hK K;try simp only[pu]
    refine' wpAnyH_take (i:=3) (oi:=⟨some 25,_,_,_,_,_⟩) (v:=_) rfl (by kernel_rfl) (by kernel_rfl) (by kernel_rfl) (fun _ _ _ h=>h) (Or.inl ⟨by rfl,?_⟩) hHeld ?_
    rotate_left
    ·(intro w' aa;(try dsimp only at aa);go_simp;(try with_reducible rfl))
    try simp only[pu]
    refine' wpAnyH_take (i:=4) (oi:=⟨some 26,_,_,_,_,_⟩) (v:=_) rfl (by kernel_rfl) (by kernel_rfl) (by kernel_rfl) (fun _ _ _ h=>h) (Or.inl ⟨by rfl,?_⟩) hHeld ?_
    rotate_left
    ·(intro w' aa;(try dsimp only at aa);go_simp;(try with_reducible rfl))
    try simp only[pu]
    refine' wpAnyH_take (i:=5) (oi:=⟨some 27,_,_,_,_,_⟩) (v:=_) rfl (by kernel_rfl) (by kernel_rfl) (by kernel_rfl) (fun _ _ _ h=>h) (Or.inl ⟨by rfl,?_⟩) hHeld ?_
    rotate_left
    ·(intro w' aa;(try dsimp only at aa);go_simp;(try with_reducible rfl))
    try simp only[pu]
    refine' wpAnyH_take (i:=6) (oi:=⟨some 28,_,_,_,_,_⟩) (v:=_) rfl (by kernel_rfl) (by kernel_rfl) (by kernel_rfl) (fun _ _ _ h=>h) (Or.inl ⟨by rfl,?_⟩) hHeld ?_
    rotate_left
    ·(intro w' aa;(try dsimp only at aa);go_simp;(try with_reducible rfl))
    try simp only[pu]
    refine' wpAnyH_take (i:=7) (oi:=⟨some 29,_,_,_,_,_⟩) (v:=_) rfl (by kernel_rfl) (by kernel_rfl) (by kernel_rfl) (fun _ _ _ h=>h) (Or.inl ⟨by rfl,?_⟩) hHeld ?_
    rotate_left
    ·(intro w' aa;(try dsimp only at aa);go_simp;(try with_reducible rfl))
    try simp only[pu]
    refine' wpAnyH_take (i:=8) (oi:=⟨some 30,_,_,_,_,_⟩) (v:=_) rfl (by kernel_rfl) (by kernel_rfl) (by kernel_rfl) (fun _ _ _ h=>h) (Or.inl ⟨by rfl,?_⟩) hHeld ?_
    rotate_left
    ·(intro w' aa;(try dsimp only at aa);go_simp;(try with_reducible rfl))
    try simp only[pu]
    refine' wpAnyH_take (i:=9) (oi:=⟨some 31,_,_,_,_,_⟩) (v:=_) rfl (by kernel_rfl) (by kernel_rfl) (by kernel_rfl) (fun _ _ _ h=>h) (Or.inl ⟨by rfl,?_⟩) hHeld ?_
    rotate_left
    ·(intro w' aa;(try dsimp only at aa);go_simp;(try with_reducible rfl))
    try simp only[pu]
    refine' wpAnyH_take (i:=10) (oi:=⟨some 32,_,_,_,_,_⟩) (v:=_) rfl (by kernel_rfl) (by kernel_rfl) (by kernel_rfl) (fun _ _ _ h=>h) (Or.inl ⟨by rfl,?_⟩) hHeld ?_
    rotate_left
    ·(intro w' aa;(try dsimp only at aa);go_simp;(try with_reducible rfl))
    try simp only[pu]
    refine' wpAnyH_take (i:=11) (oi:=⟨some 33,_,_,_,_,_⟩) (v:=_) rfl (by kernel_rfl) (by kernel_rfl) (by kernel_rfl) (fun _ _ _ h=>h) (Or.inl ⟨by rfl,?_⟩) hHeld ?_
    rotate_left
    ·(intro w' aa;(try dsimp only at aa);go_simp;(try with_reducible rfl))
    try simp only[pu]
    refine' wpAnyH_take (i:=12) (oi:=⟨some 34,_,_,_,_,_⟩) (v:=_) rfl (by kernel_rfl) (by kernel_rfl) (by kernel_rfl) (fun _ _ _ h=>h) (Or.inl ⟨by rfl,?_⟩) hHeld ?_
    rotate_left
    ·(intro w' aa;(try dsimp only at aa);go_simp;(try with_reducible rfl))
    try simp only[pu]
    refine' wpAnyH_take (i:=13) (oi:=⟨some 35,_,_,_,_,_⟩) (v:=_) rfl (by kernel_rfl) (by kernel_rfl) (by kernel_rfl) (fun _ _ _ h=>h) (Or.inl ⟨by rfl,?_⟩) hHeld ?_
    rotate_left
    ·(intro w' aa;(try dsimp only at aa);go_simp;(try with_reducible rfl))
    try simp only[pu]
    refine' wpAnyH_take (i:=14) (oi:=⟨some 36,_,_,_,_,_⟩) (v:=_) rfl (by kernel_rfl) (by kernel_rfl) (by kernel_rfl) (fun _ _ _ h=>h) (Or.inl ⟨by rfl,?_⟩) hHeld ?_
    rotate_left
    ·(intro w' aa;(try dsimp only at aa);go_simp;(try with_reducible rfl))
    try simp only[pu]
    refine' wpAnyH_take (i:=15) (oi:=⟨some 37,_,_,_,_,_⟩) (v:=_) rfl (by kernel_rfl) (by kernel_rfl) (by kernel_rfl) (fun _ _ _ h=>h) (Or.inl ⟨by rfl,?_⟩) hHeld ?_
    rotate_left
    ·(intro w' aa;(try dsimp only at aa);go_simp;(try with_reducible rfl))
    try simp only[pu]
    refine' wpAnyH_take (i:=16) (oi:=⟨some 38,_,_,_,_,_⟩) (v:=_) rfl (by kernel_rfl) (by kernel_rfl) (by kernel_rfl) (fun _ _ _ h=>h) (Or.inl ⟨by rfl,?_⟩) hHeld ?_
    rotate_left
    ·(intro w' aa;(try dsimp only at aa);go_simp;(try with_reducible rfl))
    try simp only[pu]
    refine' wpAnyH_take (i:=17) (oi:=⟨some 39,_,_,_,_,_⟩) (v:=_) rfl (by kernel_rfl) (by kernel_rfl) (by kernel_rfl) (fun _ _ _ h=>h) (Or.inl ⟨by rfl,?_⟩) hHeld ?_
    rotate_left
    ·(intro w' aa;(try dsimp only at aa);go_simp;(try with_reducible rfl))
    try simp only[pu]
    refine' wpAnyH_take (i:=18) (oi:=⟨some 40,_,_,_,_,_⟩) (v:=_) rfl (by kernel_rfl) (by kernel_rfl) (by kernel_rfl) (fun _ _ _ h=>h) (Or.inl ⟨by rfl,?_⟩) hHeld ?_
    rotate_left
    ·(intro w' aa;(try dsimp only at aa);go_simp;(try with_reducible rfl))
    try simp only[pu]
    refine' wpAnyH_take (i:=19) (oi:=⟨some 41,_,_,_,_,_⟩) (v:=_) rfl (by kernel_rfl) (by kernel_rfl) (by kernel_rfl) (fun _ _ _ h=>h) (Or.inl ⟨by rfl,?_⟩) hHeld ?_
    rotate_left
    ·(intro w' aa;(try dsimp only at aa);go_simp;(try with_reducible rfl))
    try simp only[pu]
    refine' wpAnyH_take (i:=20) (oi:=⟨some 42,_,_,_,_,_⟩) (v:=_) rfl (by kernel_rfl) (by kernel_rfl) (by kernel_rfl) (fun _ _ _ h=>h) (Or.inl ⟨by rfl,?_⟩) hHeld ?_
    rotate_left
    ·(intro w' aa;(try dsimp only at aa);go_simp;(try with_reducible rfl))
    try simp only[pu]
    refine' wpAnyH_take (i:=21) (oi:=⟨some 43,_,_,_,_,_⟩) (v:=_) rfl (by kernel_rfl) (by kernel_rfl) (by kernel_rfl) (fun _ _ _ h=>h) (Or.inl ⟨by rfl,?_⟩) hHeld ?_
    rotate_left
    ·(intro w' aa;(try dsimp only at aa);go_simp;(try with_reducible rfl))
    try simp only[pu]
    refine' wpAnyH_take (i:=22) (oi:=⟨some 44,_,_,_,_,_⟩) (v:=_) rfl (by kernel_rfl) (by kernel_rfl) (by kernel_rfl) (fun _ _ _ h=>h) (Or.inl ⟨by rfl,?_⟩) hHeld ?_
    rotate_left
    ·(intro w' aa;(try dsimp only at aa);go_simp;(try with_reducible rfl))
    try simp only[pu]
    refine wpAnyH_ready (rs:=[23]) (by kernel_rfl) (by simp) ?_
    refine AllReadyH.cons (i:=23) rfl (fun K hK=> ?_) AllReadyH.nil;go_simp
    (go_at_call 89;refine(ld.o _ (ay.o.trans hHeld.1)).mono ?_;rintro e de ⟨rfl,cX⟩)
    try go_wp2_with fail
    refine hK.out _ _ ?_ (fun hHeld=> ?_)
    ·exact eh.o _ _ hHeld cX
    clear hK K;try simp only[pu]
    refine' wpAnyH_take (i:=24) (oi:=⟨some 46,_,_,_,_,_⟩) (v:=_) rfl (by kernel_rfl) (by kernel_rfl) (by kernel_rfl) (fun _ _ _ h=>h) (Or.inl ⟨by rfl,?_⟩) hHeld ?_
    rotate_left
    ·(intro w' aa;(try dsimp only at aa);go_simp;(try with_reducible rfl))
    try simp only[pu]
    refine' wpAnyH_take (i:=25) (oi:=⟨some 47,_,_,_,_,_⟩) (v:=_) rfl (by kernel_rfl) (by kernel_rfl) (by kernel_rfl) (fun _ _ _ h=>h) (Or.inl ⟨by rfl,?_⟩) hHeld ?_
    rotate_left
    ·(intro w' aa;(try dsimp only at aa);go_simp;(try with_reducible rfl))
    try simp only[pu]
    refine wpAnyH_done (by kernel_rfl) ?_ _
    have gC:=J (ay.o.trans hHeld.1);clear hHeld eh;go_wp2_with fail;go_ret;exact⟨false,rfl,⟨(fun h=>by cases h),fun h=>absurd h ar.o⟩,gC.o⟩
  ·obtain rfl:k=n:=by omega
   have cD:=J (HS.o.ok (by rw[<-HN.o];exact Nat.le_refl _) tr.o);have aq:=J hx;obtain⟨w2,aY⟩:∃w2,w2=wr:=⟨_,rfl⟩;rw[<-aY]at aq;have VJ:Ext w2 wr:=by rw[aY];exact Ext.refl wr
   have lJ:=J VJ;clear hx HS fc HX aY VJ;go_wp2_with fail;go_loopw [8,9,11,51] (fun _ _ _ yw wr=>∃j:Nat,j<=k/\yw= .int .i64 (j:Int)/\Fy ns env j/\Ext w2 wr) (fun _ _ _ yw _=>k-(intOf yw).toNat)
   case atStart=>exact⟨0,Nat.zero_le _,rfl,Fy.start ns env,lJ.o⟩
   case round=>
    clear lJ;obtain⟨j,hj,rfl,hf,hx⟩:=hrel;have HF:=J hf;have HX:=J hx;clear hf;generalize wr=wa at *;by_cases hlt:j<k
    ·have iZ:j<env.length:=by rw[<-HN.o];exact hlt
     obtain⟨gb,o,rfl,bO,hc⟩:=bH.o (by rw[<-HN.o];omega);obtain⟨p0,p1⟩:=hc j iZ;rw[<-(aq.o.trans hx).cell bO]at p0 p1;have al:gb<wa.heap.size:=Nat.lt_of_lt_of_le bO (aq.o.trans hx).size;have o3:(0:Int)<=(j:Int):=by omega
     have oZ:(j:Int)<(k:Int):=by omega
     have yQ:IntKind.i64.wrap ((j:Int)+1)=(j:Int)+1:=IntWalk.i64_in _ (by omega);have aF:=J (fun h1 h2=>HF.o.step iZ h1 h2);have aQ:=cD.o.node _ (List.getElem_mem iZ);have cT:Hid (AO ns env->B8 ns env env[j].2.toNat/\¬B2 ns env env[j].2.toNat env[j].1):=J (fun h=>⟨h.bound _ (List.getElem_mem iZ),h.free _ (List.getElem_mem iZ)⟩);clear hc hx;generalize env[j]=y at *;clear iZ;obtain⟨t,z⟩:=y;simp only at p0 p1 aF aQ cT;have xa:=J aQ;have oP:=J (fun W v ls (ha:Bl W v ls) hl=>Hw W v ls ha hl t);obtain⟨s,hs⟩:∃s:ByteArray,str t= .string s:=⟨_,rfl⟩;rw[hs]at p0 oP;clear hs aQ;go_upto_region 12 with fail;have dx:=Blk.new wa 62 #[.string s,.int .i64 z];have bq:=(Ext.refl wa).alloc (.cells #[.string s,.int .i64 z] 62);generalize wa.alloc (.cells #[.string s,.int .i64 z] 62)=w7 at *;generalize wa.heap.size=nb at *;obtain⟨q0,q1⟩:=dx.twoB;have ay:=J (HX.o.trans bq);have bX:=J dx;have bG:=J (Cv B g w7 ns rv (HG.o.keep (aq.o.trans ay.o)) z);unfold CQ at bG;clear dx bq p0 p1 al;go_wp2_with fail;refine bG.o.mono ?_
     rintro e w3 ⟨v3,l,rfl,jV,eu,_,ae⟩;have aj:=J (ay.o.trans ae);have bE:=J (bX.o.ext ae);obtain⟨hl2,fS⟩:=AQ.texts HG.o.ok eu;have zI:=HG.o.few;have lM:=J (Hx B g w3 ns rv (HG.o.keep (aq.o.trans aj.o)) _ env (lk.o.ext (aq.o.trans aj.o)) (by rw[<-HN.o];omega) v3 l jV (by omega) (AX ns z) (AX.mem eu) (CA ns) fS (fun t ht=>ht) (by unfold CA;rw[List.length_map];omega) (fun t ht=>by have:=BM HG.o.ok t ht;omega));unfold E8 at lM;obtain⟨m3,A3,c3,rfl⟩:=jV.shape;clear eu ae jV hl2 fS bG q0 q1;go_wp2_with fail;refine lM.o.mono ?_
     rintro e w4 ⟨v4,L,rfl,eR,mn,d7,tU,tO,aR⟩;have aE:=J (aj.o.trans aR);have ei:=J (bE.o.ext aR);have i7:=J eR.arr;have dl:Hid (∀t,t∈L↔B2 ns env z.toNat t):=J (fun t=>(d7 t).trans (GA xa.o.1 xa.o.2 t));obtain⟨A4,c4,rfl⟩:=GK eR;obtain⟨m,hm⟩:∃m,m=L.length:=⟨_,rfl⟩;have HM:=J hm;have Xi:=J (fun W (hx:Ext w4 W)=>oP.o W _ L (i7.o.ext hx) (by omega));rw[<-hm]at tO i7 Xi ⊢;clear aR eR mn d7 tU lM hm bE oP;go_wp2_with fail;go_loopw [64,11] (fun yv _ wr=>∃i:Nat,i<=m/\yv= .int .i64 (i:Int)/\(∀t∈L.take i,0<=Ao env t)/\Ext w4 wr) (fun yv _ _=>m-(intOf yv).toNat)
     case atStart=>exact⟨0,Nat.zero_le _,rfl,by rw[List.take_zero];exact(fun t ht=>by cases ht),Ext.refl w4⟩
     case round=>
      obtain⟨i,hi,rfl,gB,hx⟩:=hrel;have wF:=J hx;by_cases hlt2:i<m
      ·have pM:i<L.length:=by rw[<-HM.o];exact hlt2
       obtain⟨_,_,hv,_,_,aB⟩:=i7.o.open;injection hv with hv1 hv2 hv3
       subst hv1;clear hv2 hv3;obtain⟨ga,oa,rfl,fB,aB⟩:=aB (by rw[<-HM.o];omega);have p0:=(hx.cell fB).trans (aB i pM);have gA:(0:Int)<=(i:Int):=by omega
       have hil:(i:Int)<(m:Int):=by omega
       have lr:IntKind.i64.wrap ((i:Int)+1)=(i:Int)+1:=IntWalk.i64_in _ (by omega);have cA:Hid (0<=Ao env L[i]->∀t∈L.take (i+1),0<=Ao env t):=J (fun h t ht=>by
        rw[List.take_succ_eq_append_getElem pM]at ht;rcases List.mem_append.1 ht with ht|ht
        ·exact gB t ht
        ·rw[List.mem_singleton]at ht;rw[ht];exact h)
       have Xb:Hid (L[i]∈L):=J (List.getElem_mem pM);clear aB gB hx;generalize L[i]=x at *;clear pM;have mI:=J (dn.o wr (aq.o.trans (aE.o.trans wF.o)) x);obtain⟨zf,hz⟩:∃zf,Ao env x=zf:=⟨_,rfl⟩;have HZ:=J hz;rw[hz]at mI cA;obtain⟨sx,tJ⟩:∃sx:ByteArray,str x= .string sx:=⟨_,rfl⟩;rw[tJ]at mI p0;clear tJ hz;by_cases h0:0<=zf
       ·have hd:decide (zf<0)=false:=decide_eq_false (by omega);have mK:=J (cA.o h0);clear cA h0;go_wp2_with fail;refine mI.o.mono ?_
        rintro e w6 ⟨rfl,be⟩;have aO:=J (wF.o.trans be);clear be p0;go_wp2_with fail;go_roundw
        case rel=>exact⟨i+1,by omega,by go_num,mK.o,aO.o⟩
        case measure=>simp[intOf]<;>omega
       ·have hd:decide (zf<0)=true:=decide_eq_true (by omega);have bD:Hid (¬AO ns env):=J (fun h=>by
         have h1:=(cT.o h).1 x ((dl.o x).1 Xb.o);rw[HZ.o]at h1;exact h0 h1)
        clear cA h0;go_wp2_with fail;refine mI.o.mono ?_
        rintro e w6 ⟨rfl,be⟩;have aO:=J (aq.o.trans (aE.o.trans (wF.o.trans be)));clear be p0;go_wp2_with fail;go_ret;exact⟨false,rfl,⟨(fun h=>by cases h),fun h=>absurd h bD.o⟩,aO.o⟩
      ·obtain rfl:i=m:=by omega
       have Vw:Hid (B8 ns env z.toNat):=J (fun t ht=>by
        have h1:=(dl.o t).2 ht;rw[show L.take i=L from List.take_of_length_le (by rw[<-HM.o];exact Nat.le_refl _)]at gB;exact gB t h1)
       have lZ:=J (Xi.o wr hx);obtain⟨d,qI⟩:∃d,decide (t∈L)=d:=⟨_,rfl⟩;have pk:=J qI;rw[qI]at lZ;obtain⟨q0,q1⟩:=(ei.o.ext hx).twoB;clear gB hx qI;cases d
       ·have iv:=J (aF.o Vw.o (fun h=>by have h1:=(dl.o t).2 h;rw[decide_eq_true h1]at pk;cases pk.o));go_wp2_with fail;refine lZ.o.mono ?_
        rintro e w9 ⟨rfl,rfl⟩;go_wp2_with fail;go_roundw
        case rel=>exact⟨j+1,by omega,by go_num,iv.o,aE.o.trans wF.o⟩
        case measure=>simp[intOf]<;>omega
       ·have bD:Hid (¬AO ns env):=J (fun h=>(cT.o h).2 ((dl.o t).1 (of_decide_eq_true pk.o)));go_wp2_with fail;refine lZ.o.mono ?_
        rintro e w9 ⟨rfl,rfl⟩;go_wp2_with fail;go_ret;exact⟨false,rfl,⟨(fun h=>by cases h),fun h=>absurd h bD.o⟩,aq.o.trans (aE.o.trans wF.o)⟩
    ·obtain rfl:j=k:=by omega
     have cP:=J (HF.o.good (by rw[<-HN.o];exact Nat.le_refl _) cD.o);clear hx;go_wp2_with fail;go_ret;exact⟨true,rfl,⟨fun _=>cP.o,fun _=>rfl⟩,aq.o.trans HX.o⟩
end Big
end Go.Proofs.YtkoaogkknnelaaaGreatDoor
