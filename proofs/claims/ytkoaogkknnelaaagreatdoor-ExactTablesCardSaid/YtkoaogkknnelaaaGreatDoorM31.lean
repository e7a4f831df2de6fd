import Derived.Test.YtkoaogkknnelaaaGreatDoorM30
import Derived.Test.YtkoaogkknnelaaaGreatDoorM29
set_option linter.unusedVariables false
set_option linter.unusedSimpArgs false
set_option maxHeartbeats 8000000
set_option maxRecDepth 100000
namespace Go.Proofs.YtkoaogkknnelaaaGreatDoor
namespace Big
open Lib renaming hid → J
open Go.RowKit
theorem Kz(w:World)(v0:Value)(p:Int)(q:Nat)(h0:An w v0 p q)(n0:(Ac p.natAbs).length<=1000000)(m0:(Ac q).length<=1000000)(n:Nat)(hn:n<=64):
  Calls Tryz.prog 147 #[v0,.int .i64 (n:Int)] w fun e w'=>∃v',e= .returned (.tuple #[v',.int .i64 0])/\Ag w.heap.size w' v' (p ^ n) (q ^ n)/\Ext w w':=by
 have H0:=J h0;have im:¬(n:Int)< -64:=by omega
 have mN:¬64<(n:Int):=by omega
 have uA:¬(n:Int)<0:=by omega
 have iS:=J (fun W m a=>Jp W m (Ac p.natAbs) n a n0 hn);have pb:=J (fun W m a=>Jp W m (Ac q) n a m0 hn);rw[Ad]at iS pb;have pI:=Lr p n;have jy:=J (fun W m a=>Cg W (decide (p<0) && decide (n % 2=1)) m (Ac (p.natAbs ^ n)) a (by have:=Bz n0 hn;omega));rw[Ad,pI]at jy;obtain⟨r,hr⟩:∃r,n % 2=r:=⟨_,rfl⟩;have ac:(n:Int) % 2=(r:Int):=by omega
 have hr2:Int.tmod (n:Int) 2=(r:Int):=by rw[Int.tmod_eq_emod_of_nonneg (by omega)];omega
 have bx:((r:Int) == 1)=decide (n % 2=1):=by rw[hr,qaM,beq_iff_eq,decide_eq_true_iff];omega
 generalize decide (n % 2=1)=d at *;obtain⟨b0,l0,A0,c0,k0,D0,e0,rfl⟩:=h0.shape;have cx:=h0.sign;rw[<-cx]at jy;have fp:=J h0.num;have lZ:=J h0.den;clear h0 cx hr pI n0 m0;cases b0
 ·simp only[qaV]at jy;go_enter Tryz.func147,Tryz.ntmps147;go_upto_region 8 with fail;have hb0:=((Blk.new w 26 #[.bool false,.slice A0 l0 c0,.slice D0 k0 e0]).alloc (.cells #[.bool false,.slice none 0 0,.slice none 0 0] 26));have am:=(Blk.new (w.alloc (.cells #[.bool false,.slice A0 l0 c0,.slice D0 k0 e0] 26)) 26 #[.bool false,.slice none 0 0,.slice none 0 0]);have az:=(((Ext.refl w).alloc (.cells #[.bool false,.slice A0 l0 c0,.slice D0 k0 e0] 26)).alloc (.cells #[.bool false,.slice none 0 0,.slice none 0 0] 26));have aq:w.heap.size+1+1=((w.alloc (.cells #[.bool false,.slice A0 l0 c0,.slice D0 k0 e0] 26)).alloc (.cells #[.bool false,.slice none 0 0,.slice none 0 0] 26)).heap.size:=by simp
  simp only[World.size_alloc]at am;generalize (w.alloc (.cells #[.bool false,.slice A0 l0 c0,.slice D0 k0 e0] 26)).alloc (.cells #[.bool false,.slice none 0 0,.slice none 0 0] 26)=wo at *;have aj:=J hb0;have ag:=J am;have HX:=J az;have HZ:Hid (w.heap.size+1+1<=wo.heap.size):=J (by omega);clear az aq hb0 am;obtain⟨aw,aQ,aP,aY,aX,aW,aV⟩:=aj.o.three;obtain⟨av,aO,aN,aM,aL,aK,aU⟩:=ag.o.three;have HE0:=J (Ext.refl wo).drew;have rL:=HZ.o;have Xf:=J (Ext.refl wo).drew;refine wp_region_held_drew (S:=fun w'=>Ext w w'/\w'.cell? ⟨w.heap.size,0,none⟩=some (Value.bool false)/\w'.cell? ⟨w.heap.size,1,none⟩=some (Value.slice A0 l0 c0)/\w'.cell? ⟨w.heap.size,2,none⟩=some (Value.slice D0 k0 e0)/\w'.cell? ⟨w.heap.size+1,0,none⟩=some (was w' (w.heap.size+1) 0)/\w'.cell? ⟨w.heap.size+1,1,none⟩=some (was w' (w.heap.size+1) 1)/\w'.cell? ⟨w.heap.size+1,2,none⟩=some (was w' (w.heap.size+1) 2)/\w'.frozen? ⟨w.heap.size+1,0,none⟩=false/\w'.frozen? ⟨w.heap.size+1,1,none⟩=false/\w'.frozen? ⟨w.heap.size+1,2,none⟩=false) (by kernel_rfl) (by exact⟨HX.o.drew,aw,aQ,aP,Ae (w:=wo.drew) av,Ae (w:=wo.drew) aO,Ae (w:=wo.drew) aN,aM,aL,aK⟩) (fun hHeld=> ?_);refine' wpAnyH_take (i:=0) (v:=_) rfl (by kernel_rfl) (by kernel_rfl) (by kernel_rfl) (fun _ _ _ h=>h) (Or.inl ⟨by rfl,?_⟩) hHeld ?_
  rotate_left
  ·(intro w' bj;(try dsimp only at bj);go_simp;(try with_reducible rfl))
  try simp only[pu]
  refine' wpAnyH_take (i:=1) (v:=_) rfl (by kernel_rfl) (by kernel_rfl) (by kernel_rfl) (fun _ _ _ h=>h) (Or.inl ⟨by rfl,?_⟩) hHeld ?_
  rotate_left
  ·(intro w' bj;(try dsimp only at bj);go_simp;(try with_reducible rfl))
  try simp only[pu]
  refine' wpAnyH_take (i:=2) (v:=_) rfl (by kernel_rfl) (by kernel_rfl) (by kernel_rfl) (fun _ _ _ h=>h) (Or.inl ⟨by rfl,?_⟩) hHeld ?_
  rotate_left
  ·(intro w' bj;(try dsimp only at bj);go_simp;(try with_reducible rfl))
  try simp only[pu]
  refine' wpAnyH_take (i:=3) (v:=_) rfl (by kernel_rfl) (by kernel_rfl) (by kernel_rfl) (fun _ _ _ h=>h) (Or.inl ⟨by rfl,?_⟩) hHeld ?_
  rotate_left
  ·(intro w' bj;(try dsimp only at bj);go_simp;(try with_reducible rfl))
  try simp only[pu]
  refine wpAnyH_take (i:=4) (v:=undef) rfl (by kernel_rfl) (by kernel_rfl) (by kernel_rfl) (fun _ _ _ h=>h) (Or.inr ⟨by rfl,rfl⟩) hHeld ?_
  try simp only[pu]
  refine wpAnyH_take (i:=5) (v:=undef) rfl (by kernel_rfl) (by kernel_rfl) (by kernel_rfl) (fun _ _ _ h=>h) (Or.inr ⟨by rfl,rfl⟩) hHeld ?_
  try simp only[pu]
  refine wpAnyH_take (i:=6) (v:=undef) rfl (by kernel_rfl) (by kernel_rfl) (by kernel_rfl) (fun _ _ _ h=>h) (Or.inr ⟨by rfl,rfl⟩) hHeld ?_
  try simp only[pu]
  refine' wpAnyH_take (i:=7) (v:=_) rfl (by kernel_rfl) (by kernel_rfl) (by kernel_rfl) (fun _ _ _ h=>h) (Or.inl ⟨by rfl,?_⟩) hHeld ?_
  rotate_left
  ·(intro w' bj;(try dsimp only at bj);go_simp;(try with_reducible rfl))
  try simp only[pu]
  refine' wpAnyH_take (i:=8) (v:=_) rfl (by kernel_rfl) (by kernel_rfl) (by kernel_rfl) (fun _ _ _ h=>h) (Or.inl ⟨by rfl,?_⟩) hHeld ?_
  rotate_left
  ·(intro w' bj;(try dsimp only at bj);go_simp;(try with_reducible rfl))
  try simp only[pu]
  refine' wpAnyH_take (i:=9) (v:=_) rfl (by kernel_rfl) (by kernel_rfl) (by kernel_rfl) (fun _ _ _ h=>h) (Or.inl ⟨by rfl,?_⟩) hHeld ?_
  rotate_left
  ·(intro w' bj;(try dsimp only at bj);go_simp;(try with_reducible rfl))
  try simp only[pu]
  refine' wpAnyH_take (i:=10) (v:=_) rfl (by kernel_rfl) (by kernel_rfl) (by kernel_rfl) (fun _ _ _ h=>h) (Or.inl ⟨by rfl,?_⟩) hHeld ?_
  rotate_left
  ·(intro w' bj;(try dsimp only at bj);go_simp;(try with_reducible rfl))
  try simp only[pu]
  refine' wpAnyH_take (i:=11) (v:=_) rfl (by kernel_rfl) (by kernel_rfl) (by kernel_rfl) (fun _ _ _ h=>h) (Or.inl ⟨by rfl,?_⟩) hHeld ?_
  rotate_left
  ·(intro w' bj;(try dsimp only at bj);go_simp;(try with_reducible rfl))
  try simp only[pu]
  refine' wpAnyH_take (i:=14) (v:=_) rfl (by kernel_rfl) (by kernel_rfl) (by kernel_rfl) (fun _ _ _ h=>h) (Or.inl ⟨by rfl,?_⟩) hHeld ?_
  rotate_left
  ·(intro w' bj;(try dsimp only at bj);go_simp;(try with_reducible rfl))
  try simp only[pu]
  refine' wpAnyH_take (i:=15) (v:=_) rfl (by kernel_rfl) (by kernel_rfl) (by kernel_rfl) (fun _ _ _ h=>h) (Or.inl ⟨by rfl,?_⟩) hHeld ?_
  rotate_left
  ·(intro w' bj;(try dsimp only at bj);go_simp;(try with_reducible rfl))
  try simp only[pu]
  refine' wpAnyH_take (i:=16) (v:=_) rfl (by kernel_rfl) (by kernel_rfl) (by kernel_rfl) (fun _ _ _ h=>h) (Or.inl ⟨by rfl,?_⟩) hHeld ?_
  rotate_left
  ·(intro w' bj;(try dsimp only at bj);go_simp;(try with_reducible rfl))
  try simp only[pu]
  refine wpAnyH_ready (rs:=[12]) (by kernel_rfl) (by simp) ?_
  refine AllReadyH.cons (i:=12) rfl (fun K hK=> ?_) AllReadyH.nil;go_simp
  (go_at_call 193;refine(iS.o _ _ (fp.o.ext hHeld.1)).mono ?_;rintro e w7 ⟨r7,rfl,qZ,bH⟩;have R7:=J qZ;have jb:Hid (Ext wo w7):=J (Xf.o.trans bH);obtain⟨g7,G7,j7,rfl⟩:=qZ.shape)
  try go_wp2_with fail
  refine hK.out _ _ ?_ (fun hHeld=> ?_)
  ·(first|(exact hHeld)|(exact B9 hHeld (by assumption))|(exact Bc hHeld (by omega) (by omega) (by omega) (by omega)))
  clear hK K;try simp only[pu]
  refine wpAnyH_ready (rs:=[13]) (by kernel_rfl) (by simp) ?_
  refine AllReadyH.cons (i:=13) rfl (fun K hK=> ?_) AllReadyH.nil;go_simp
  (go_at_call 64;refine(jy.o _ _ R7.o.arr).mono ?_;rintro e w8 ⟨r8,rfl,fA,bJ⟩;have R8:=J fA;have fw:Hid (Ext wo w8):=J (jb.o.trans bJ);obtain⟨f8,g8,G8,j8,rfl⟩:=fA.shape)
  try go_wp2_with fail
  refine hK.out _ _ ?_ (fun hHeld=> ?_)
  ·(first|(exact hHeld)|(exact B9 hHeld (by assumption))|(exact Bc hHeld (by omega) (by omega) (by omega) (by omega)))
  clear hK K;try simp only[pu]
  refine wpAnyH_ready (rs:=[17]) (by kernel_rfl) (by simp) ?_
  refine AllReadyH.cons (i:=17) rfl (fun K hK=> ?_) AllReadyH.nil;go_simp
  (go_at_call 193;refine(pb.o _ _ (lZ.o.ext hHeld.1)).mono ?_;rintro e w9 ⟨r9,rfl,jd,dt⟩;have R9:=J jd;have R8:=J (R8.o.ext dt);have km:Hid (Ext wo w9):=J (fw.o.trans dt);obtain⟨g9,G9,j9,rfl⟩:=jd.shape)
  try go_wp2_with fail
  refine hK.out _ _ ?_ (fun hHeld=> ?_)
  ·(first|(exact hHeld)|(exact B9 hHeld (by assumption))|(exact Bc hHeld (by omega) (by omega) (by omega) (by omega)))
  clear hK K;try simp only[pu]
  refine' wpAnyH_take (i:=18) (v:=_) rfl (by kernel_rfl) (by kernel_rfl) (by kernel_rfl) (fun _ _ _ h=>h) (Or.inl ⟨by rfl,?_⟩) hHeld ?_
  rotate_left
  ·(intro w' bj;(try dsimp only at bj);go_simp;(try with_reducible rfl))
  try simp only[pu]
  refine wpAnyH_ready (rs:=[19]) (by kernel_rfl) (by simp) ?_
  refine AllReadyH.cons (i:=19) rfl (fun K hK=> ?_) AllReadyH.nil;go_simp;try go_wp2_with fail
  refine hK.out _ _ ?_ (fun hHeld=> ?_)
  ·(first|(exact hHeld)|(exact B9 hHeld (by assumption))|(exact Bc hHeld (by omega) (by omega) (by omega) (by omega)))
  clear hK K;try simp only[pu]
  refine wpAnyH_ready (rs:=[20]) (by kernel_rfl) (by simp) ?_
  refine AllReadyH.cons (i:=20) rfl (fun K hK=> ?_) AllReadyH.nil;go_simp;try go_wp2_with fail
  refine hK.out _ _ ?_ (fun hHeld=> ?_)
  ·(first|(exact hHeld)|(exact B9 hHeld (by assumption))|(exact Bc hHeld (by omega) (by omega) (by omega) (by omega)))
  clear hK K;try simp only[pu]
  refine wpAnyH_done (by kernel_rfl) ?_ _
  go_wp2_with fail;obtain⟨hE,_,_,_,oV,oU,oT,_,_,_⟩:=hHeld;obtain⟨ai,ac,hr2⟩:=Cu oV oU oT;refine bodyPost_ret (v:= .tuple #[.agg #[.bool f8,.slice G8 g8 j8,.slice G9 g9 j9],.int .i64 0]) (by simp[results,Tryz.results147,go_sem,ai,ac,hr2]) rfl ?_
  exact⟨_,rfl,Ag.put (w1:=wo) (Ag.mk (R8.o.mono (by have:=jb.o.size;omega)) (R9.o.mono (by have:=fw.o.size;omega))) (by omega) (by omega),hE⟩
 ·simp only[qaE]at jy;go_enter Tryz.func147,Tryz.ntmps147;go_upto_region 8 with fail;have hb0:=((Blk.new w 26 #[.bool true,.slice A0 l0 c0,.slice D0 k0 e0]).alloc (.cells #[.bool false,.slice none 0 0,.slice none 0 0] 26));have am:=(Blk.new (w.alloc (.cells #[.bool true,.slice A0 l0 c0,.slice D0 k0 e0] 26)) 26 #[.bool false,.slice none 0 0,.slice none 0 0]);have az:=(((Ext.refl w).alloc (.cells #[.bool true,.slice A0 l0 c0,.slice D0 k0 e0] 26)).alloc (.cells #[.bool false,.slice none 0 0,.slice none 0 0] 26));have aq:w.heap.size+1+1=((w.alloc (.cells #[.bool true,.slice A0 l0 c0,.slice D0 k0 e0] 26)).alloc (.cells #[.bool false,.slice none 0 0,.slice none 0 0] 26)).heap.size:=by simp
  simp only[World.size_alloc]at am;generalize (w.alloc (.cells #[.bool true,.slice A0 l0 c0,.slice D0 k0 e0] 26)).alloc (.cells #[.bool false,.slice none 0 0,.slice none 0 0] 26)=wo at *;have aj:=J hb0;have ag:=J am;have HX:=J az;have HZ:Hid (w.heap.size+1+1<=wo.heap.size):=J (by omega);clear az aq hb0 am;obtain⟨aw,aQ,aP,aY,aX,aW,aV⟩:=aj.o.three;obtain⟨av,aO,aN,aM,aL,aK,aU⟩:=ag.o.three;have HE0:=J (Ext.refl wo).drew;have rL:=HZ.o;have Xf:=J (Ext.refl wo).drew;refine wp_region_held_drew (S:=fun w'=>Ext w w'/\w'.cell? ⟨w.heap.size,0,none⟩=some (Value.bool true)/\w'.cell? ⟨w.heap.size,1,none⟩=some (Value.slice A0 l0 c0)/\w'.cell? ⟨w.heap.size,2,none⟩=some (Value.slice D0 k0 e0)/\w'.cell? ⟨w.heap.size+1,0,none⟩=some (was w' (w.heap.size+1) 0)/\w'.cell? ⟨w.heap.size+1,1,none⟩=some (was w' (w.heap.size+1) 1)/\w'.cell? ⟨w.heap.size+1,2,none⟩=some (was w' (w.heap.size+1) 2)/\w'.frozen? ⟨w.heap.size+1,0,none⟩=false/\w'.frozen? ⟨w.heap.size+1,1,none⟩=false/\w'.frozen? ⟨w.heap.size+1,2,none⟩=false) (by kernel_rfl) (by exact⟨HX.o.drew,aw,aQ,aP,Ae (w:=wo.drew) av,Ae (w:=wo.drew) aO,Ae (w:=wo.drew) aN,aM,aL,aK⟩) (fun hHeld=> ?_);refine' wpAnyH_take (i:=0) (v:=_) rfl (by kernel_rfl) (by kernel_rfl) (by kernel_rfl) (fun _ _ _ h=>h) (Or.inl ⟨by rfl,?_⟩) hHeld ?_
  rotate_left
  ·(intro w' bj;(try dsimp only at bj);go_simp;(try with_reducible rfl))
  try simp only[pu]
  refine' wpAnyH_take (i:=1) (v:=_) rfl (by kernel_rfl) (by kernel_rfl) (by kernel_rfl) (fun _ _ _ h=>h) (Or.inl ⟨by rfl,?_⟩) hHeld ?_
  rotate_left
  ·(intro w' bj;(try dsimp only at bj);go_simp;(try with_reducible rfl))
  try simp only[pu]
  refine' wpAnyH_take (i:=2) (v:=_) rfl (by kernel_rfl) (by kernel_rfl) (by kernel_rfl) (fun _ _ _ h=>h) (Or.inl ⟨by rfl,?_⟩) hHeld ?_
  rotate_left
  ·(intro w' bj;(try dsimp only at bj);go_simp;(try with_reducible rfl))
  try simp only[pu]
  refine' wpAnyH_take (i:=3) (v:=_) rfl (by kernel_rfl) (by kernel_rfl) (by kernel_rfl) (fun _ _ _ h=>h) (Or.inl ⟨by rfl,?_⟩) hHeld ?_
  rotate_left
  ·(intro w' bj;(try dsimp only at bj);go_simp;(try with_reducible rfl))
  try simp only[pu]
  refine' wpAnyH_take (i:=4) (v:=_) rfl (by kernel_rfl) (by kernel_rfl) (by kernel_rfl) (fun _ _ _ h=>h) (Or.inl ⟨by rfl,?_⟩) hHeld ?_
  rotate_left
  ·(intro w' bj;(try dsimp only at bj);go_simp;(try with_reducible rfl))
  try simp only[pu]
  refine' wpAnyH_take (i:=5) (v:=_) rfl (by kernel_rfl) (by kernel_rfl) (by kernel_rfl) (fun _ _ _ h=>h) (Or.inl ⟨by rfl,?_⟩) hHeld ?_
  rotate_left
  ·(intro w' bj;(try dsimp only at bj);go_simp;(try with_reducible rfl))
  try simp only[pu]
  refine' wpAnyH_take (i:=6) (v:=_) rfl (by kernel_rfl) (by kernel_rfl) (by kernel_rfl) (fun _ _ _ h=>h) (Or.inl ⟨by rfl,?_⟩) hHeld ?_
  rotate_left
  ·(intro w' bj;(try dsimp only at bj);go_simp;(try with_reducible rfl))
  try simp only[pu]
  refine' wpAnyH_take (i:=7) (v:=_) rfl (by kernel_rfl) (by kernel_rfl) (by kernel_rfl) (fun _ _ _ h=>h) (Or.inl ⟨by rfl,?_⟩) hHeld ?_
  rotate_left
  ·(intro w' bj;(try dsimp only at bj);go_simp;(try with_reducible rfl))
  try simp only[pu]
  refine' wpAnyH_take (i:=8) (v:=_) rfl (by kernel_rfl) (by kernel_rfl) (by kernel_rfl) (fun _ _ _ h=>h) (Or.inl ⟨by rfl,?_⟩) hHeld ?_
  rotate_left
  ·(intro w' bj;(try dsimp only at bj);go_simp;(try with_reducible rfl))
  try simp only[pu]
  refine' wpAnyH_take (i:=9) (v:=_) rfl (by kernel_rfl) (by kernel_rfl) (by kernel_rfl) (fun _ _ _ h=>h) (Or.inl ⟨by rfl,?_⟩) hHeld ?_
  rotate_left
  ·(intro w' bj;(try dsimp only at bj);go_simp;(try with_reducible rfl))
  try simp only[pu]
  refine' wpAnyH_take (i:=10) (v:=_) rfl (by kernel_rfl) (by kernel_rfl) (by kernel_rfl) (fun _ _ _ h=>h) (Or.inl ⟨by rfl,?_⟩) hHeld ?_
  rotate_left
  ·(intro w' bj;(try dsimp only at bj);go_simp;(try with_reducible rfl))
  try simp only[pu]
  refine' wpAnyH_take (i:=11) (v:=_) rfl (by kernel_rfl) (by kernel_rfl) (by kernel_rfl) (fun _ _ _ h=>h) (Or.inl ⟨by rfl,?_⟩) hHeld ?_
  rotate_left
  ·(intro w' bj;(try dsimp only at bj);go_simp;(try with_reducible rfl))
  try simp only[pu]
  refine' wpAnyH_take (i:=14) (v:=_) rfl (by kernel_rfl) (by kernel_rfl) (by kernel_rfl) (fun _ _ _ h=>h) (Or.inl ⟨by rfl,?_⟩) hHeld ?_
  rotate_left
  ·(intro w' bj;(try dsimp only at bj);go_simp;(try with_reducible rfl))
  try simp only[pu]
  refine' wpAnyH_take (i:=15) (v:=_) rfl (by kernel_rfl) (by kernel_rfl) (by kernel_rfl) (fun _ _ _ h=>h) (Or.inl ⟨by rfl,?_⟩) hHeld ?_
  rotate_left
  ·(intro w' bj;(try dsimp only at bj);go_simp;(try with_reducible rfl))
  try simp only[pu]
  refine' wpAnyH_take (i:=16) (v:=_) rfl (by kernel_rfl) (by kernel_rfl) (by kernel_rfl) (fun _ _ _ h=>h) (Or.inl ⟨by rfl,?_⟩) hHeld ?_
  rotate_left
  ·(intro w' bj;(try dsimp only at bj);go_simp;(try with_reducible rfl))
  try simp only[pu]
  refine wpAnyH_ready (rs:=[12]) (by kernel_rfl) (by simp) ?_
  refine AllReadyH.cons (i:=12) rfl (fun K hK=> ?_) AllReadyH.nil;go_simp
  (go_at_call 193;refine(iS.o _ _ (fp.o.ext hHeld.1)).mono ?_;rintro e w7 ⟨r7,rfl,qZ,bH⟩;have R7:=J qZ;have jb:Hid (Ext wo w7):=J (Xf.o.trans bH);obtain⟨g7,G7,j7,rfl⟩:=qZ.shape)
  try go_wp2_with fail
  refine hK.out _ _ ?_ (fun hHeld=> ?_)
  ·(first|(exact hHeld)|(exact B9 hHeld (by assumption))|(exact Bc hHeld (by omega) (by omega) (by omega) (by omega)))
  clear hK K;try simp only[pu]
  refine wpAnyH_ready (rs:=[13]) (by kernel_rfl) (by simp) ?_
  refine AllReadyH.cons (i:=13) rfl (fun K hK=> ?_) AllReadyH.nil;go_simp
  (go_at_call 64;refine(jy.o _ _ R7.o.arr).mono ?_;rintro e w8 ⟨r8,rfl,fA,bJ⟩;have R8:=J fA;have fw:Hid (Ext wo w8):=J (jb.o.trans bJ);obtain⟨f8,g8,G8,j8,rfl⟩:=fA.shape)
  try go_wp2_with fail
  refine hK.out _ _ ?_ (fun hHeld=> ?_)
  ·(first|(exact hHeld)|(exact B9 hHeld (by assumption))|(exact Bc hHeld (by omega) (by omega) (by omega) (by omega)))
  clear hK K;try simp only[pu]
  refine wpAnyH_ready (rs:=[17]) (by kernel_rfl) (by simp) ?_
  refine AllReadyH.cons (i:=17) rfl (fun K hK=> ?_) AllReadyH.nil;go_simp
  (go_at_call 193;refine(pb.o _ _ (lZ.o.ext hHeld.1)).mono ?_;rintro e w9 ⟨r9,rfl,jd,dt⟩;have R9:=J jd;have R8:=J (R8.o.ext dt);have km:Hid (Ext wo w9):=J (fw.o.trans dt);obtain⟨g9,G9,j9,rfl⟩:=jd.shape)
  try go_wp2_with fail
  refine hK.out _ _ ?_ (fun hHeld=> ?_)
  ·(first|(exact hHeld)|(exact B9 hHeld (by assumption))|(exact Bc hHeld (by omega) (by omega) (by omega) (by omega)))
  clear hK K;try simp only[pu]
  refine' wpAnyH_take (i:=18) (v:=_) rfl (by kernel_rfl) (by kernel_rfl) (by kernel_rfl) (fun _ _ _ h=>h) (Or.inl ⟨by rfl,?_⟩) hHeld ?_
  rotate_left
  ·(intro w' bj;(try dsimp only at bj);go_simp;(try with_reducible rfl))
  try simp only[pu]
  refine wpAnyH_ready (rs:=[19]) (by kernel_rfl) (by simp) ?_
  refine AllReadyH.cons (i:=19) rfl (fun K hK=> ?_) AllReadyH.nil;go_simp;try go_wp2_with fail
  refine hK.out _ _ ?_ (fun hHeld=> ?_)
  ·(first|(exact hHeld)|(exact B9 hHeld (by assumption))|(exact Bc hHeld (by omega) (by omega) (by omega) (by omega)))
  clear hK K;try simp only[pu]
  refine wpAnyH_ready (rs:=[20]) (by kernel_rfl) (by simp) ?_
  refine AllReadyH.cons (i:=20) rfl (fun K hK=> ?_) AllReadyH.nil;go_simp;try go_wp2_with fail
  refine hK.out _ _ ?_ (fun hHeld=> ?_)
  ·(first|(exact hHeld)|(exact B9 hHeld (by assumption))|(exact Bc hHeld (by omega) (by omega) (by omega) (by omega)))
  clear hK K;try simp only[pu]
  refine wpAnyH_done (by kernel_rfl) ?_ _
  go_wp2_with fail;obtain⟨hE,_,_,_,oV,oU,oT,_,_,_⟩:=hHeld;obtain⟨ai,ac,hr2⟩:=Cu oV oU oT;refine bodyPost_ret (v:= .tuple #[.agg #[.bool f8,.slice G8 g8 j8,.slice G9 g9 j9],.int .i64 0]) (by simp[results,Tryz.results147,go_sem,ai,ac,hr2]) rfl ?_
  exact⟨_,rfl,Ag.put (w1:=wo) (Ag.mk (R8.o.mono (by have:=jb.o.size;omega)) (R9.o.mono (by have:=fw.o.size;omega))) (by omega) (by omega),hE⟩
theorem NO(w:World)(v0:Value)(p:Int)(q:Nat)(h0:An w v0 p q)(n0:(Ac p.natAbs).length<=1000000)(m0:(Ac q).length<=1000000)(n:Int)(hn: -64<=n)(om:n<0)(hp:p=0):
  Calls Tryz.prog 147 #[v0,.int .i64 n] w fun e w'=>∃v',e= .returned (.tuple #[v',.int .i64 2])/\Ag w.heap.size w' v' (0) (0)/\Ext w w':=by
 have H0:=J h0;have im:¬n< -64:=by omega
 have mN:¬64<n:=by omega
 have pU:=J (fun W v u a b=>NV W v 1 1 a (by rw[show (1:Int).natAbs=1 from rfl,Dt];simp) (by rw[Dt];simp) u p q b n0 m0 hp);have dG:=J (fun W=>D9 W 1 (by decide) (by decide));obtain⟨b0,l0,A0,c0,k0,D0,e0,rfl⟩:=h0.shape;clear h0 n0 m0 hp;go_enter Tryz.func147,Tryz.ntmps147;go_upto_region 1 with fail;have hb0:=((Blk.new w 26 #[.bool b0,.slice A0 l0 c0,.slice D0 k0 e0]).alloc (.cells #[.bool false,.slice none 0 0,.slice none 0 0] 26));have am:=(Blk.new (w.alloc (.cells #[.bool b0,.slice A0 l0 c0,.slice D0 k0 e0] 26)) 26 #[.bool false,.slice none 0 0,.slice none 0 0]);have az:=(((Ext.refl w).alloc (.cells #[.bool b0,.slice A0 l0 c0,.slice D0 k0 e0] 26)).alloc (.cells #[.bool false,.slice none 0 0,.slice none 0 0] 26));have aq:w.heap.size+1+1=((w.alloc (.cells #[.bool b0,.slice A0 l0 c0,.slice D0 k0 e0] 26)).alloc (.cells #[.bool false,.slice none 0 0,.slice none 0 0] 26)).heap.size:=by simp
 simp only[World.size_alloc]at am;generalize (w.alloc (.cells #[.bool b0,.slice A0 l0 c0,.slice D0 k0 e0] 26)).alloc (.cells #[.bool false,.slice none 0 0,.slice none 0 0] 26)=wo at *;have aj:=J hb0;have ag:=J am;have HX:=J az;have HZ:Hid (w.heap.size+1+1<=wo.heap.size):=J (by omega);clear az aq hb0 am;have QX:=J (H0.o.ext HX.o);have aw:=aj.o.three;have av:=ag.o.three;go_upto_region 4 with fail
 go_cut [6,7] from 17 to 22 (fun s6 s7 wx=>∃(gx:Nat) (f9:Bool) (g9:Nat) (G9:Option Addr) (j9 y9:Nat) (Y9:Option Addr) (z9:Nat),s6= .pointer (some ⟨gx,0,none⟩)/\s7= .int .i64 2/\Blk wx gx 26 #[.bool f9,.slice G9 g9 j9,.slice Y9 y9 z9]/\An wx (.agg #[.bool f9,.slice G9 g9 j9,.slice Y9 y9 z9]) (0) (0)/\Ext wo wx)
 case first=>
  have pv:=J (Ext.refl wo).drew
  go_region_law (first
   |(go_simp;go_at_call 146;have sR:=bg;refine(pU.o _ _ _ (by first|exact jt.o.arr|exact(jt.o.arr).ext ((Ext.refl _).alloc _)) (by first|exact QX.o.ext fx.o|exact QX.o.ext (fx.o.alloc _))).mono ?_;rintro e w12 ⟨xP,rfl,dy,bI⟩;have nX:=bI.size;(try simp only[World.size_drew,World.size_alloc]at nX);have jt:=J (by first|exact jt.o.ext bI|exact(jt.o.ext ((Ext.refl _).alloc _)).ext bI);have qq:=J dy;have gm:Hid (Ext wo w12):=J (by first|exact fx.o.trans bI|exact(fx.o.alloc _).trans bI);(try (have dA:=dA.ext bI));(try (have dA:=(Blk.new _ 26 #[.bool false,.slice none 0 0,.slice none 0 0]).ext bI));obtain⟨et,ek,en,eh,gB,gJ,gA,rfl⟩:=dy.shape;clear dy aw av;have aw:=(aj.o.ext gm.o).three;have av:=(ag.o.ext gm.o).three;(try (obtain⟨k0,k1,k2,yT,yS,yR,kz⟩:=dA.three)))
   |(go_simp;go_at_call 59;refine(dG.o _).mono ?_;rintro e eR ⟨yQ,rfl,fm,bg⟩;have nY:=bg.size;(try simp only[World.size_drew,World.size_alloc]at nY);have jt:=J fm;have fx:Hid (Ext wo eR):=J (by first|exact pv.o.trans bg|exact(pv.o.alloc _).trans bg);(try (have dA:=dA.ext bg));(try (have dA:=(Blk.new _ 26 #[.bool false,.slice none 0 0,.slice none 0 0]).ext bg));(try (have dA:=((Blk.new _ 26 #[.bool false,.slice none 0 0,.slice none 0 0]).drew).ext bg;(try simp only[World.size_drew]at dA)));obtain⟨lh,kg,ks,ke,kX,li,kW,rfl⟩:=fm.shape;clear fm aw av;have aw:=(aj.o.ext fx.o).three;have av:=(ag.o.ext fx.o).three;(try (obtain⟨k0,k1,k2,yT,yS,yR,kz⟩:=dA.three))))
  all_goals go_wp2_with fail
  all_goals go_meet
  all_goals have hlw:=gm.o.size
  all_goals first
   |(have kM:Blk w12 wo.heap.size 26 #[.bool false,.slice none 0 0,.slice none 0 0]:=dA;have hT:=((kM.set_ 0 (.bool et)).set_ 1 (.slice en ek eh)).set_ 2 (.slice gJ gB gA);exact⟨_,_,_,_,_,_,_,_,rfl,rfl,hT,(((qq.o.far (a:=⟨wo.heap.size,0,none⟩) (show wo.heap.size<_ by first|omega|(simp<;>omega)) (.bool et)).far (a:=⟨wo.heap.size,1,none⟩) (show wo.heap.size<_ by first|omega|(simp<;>omega)) (.slice en ek eh)).far (a:=⟨wo.heap.size,2,none⟩) (show wo.heap.size<_ by first|omega|(simp<;>omega)) (.slice gJ gB gA)).arr,(((gm.o.setCell (p:=⟨wo.heap.size,0,none⟩) (show wo.heap.size<=_ by (try simp only)<;>omega) (.bool et)).setCell (p:=⟨wo.heap.size,1,none⟩) (show wo.heap.size<=_ by (try simp only)<;>omega) (.slice en ek eh)).setCell (p:=⟨wo.heap.size,2,none⟩) (show wo.heap.size<=_ by (try simp only)<;>omega) (.slice gJ gB gA))⟩)
   |(have kM:Blk w12 eR.heap.size 26 #[.bool false,.slice none 0 0,.slice none 0 0]:=dA;have vY:=fx.o.size;have hT:=((kM.set_ 0 (.bool et)).set_ 1 (.slice en ek eh)).set_ 2 (.slice gJ gB gA);exact⟨_,_,_,_,_,_,_,_,rfl,rfl,hT,(((qq.o.far (a:=⟨eR.heap.size,0,none⟩) (show eR.heap.size<_ by first|omega|(simp<;>omega)) (.bool et)).far (a:=⟨eR.heap.size,1,none⟩) (show eR.heap.size<_ by first|omega|(simp<;>omega)) (.slice en ek eh)).far (a:=⟨eR.heap.size,2,none⟩) (show eR.heap.size<_ by first|omega|(simp<;>omega)) (.slice gJ gB gA)).arr,(((gm.o.setCell (p:=⟨eR.heap.size,0,none⟩) (show wo.heap.size<=_ by (try simp only)<;>omega) (.bool et)).setCell (p:=⟨eR.heap.size,1,none⟩) (show wo.heap.size<=_ by (try simp only)<;>omega) (.slice en ek eh)).setCell (p:=⟨eR.heap.size,2,none⟩) (show wo.heap.size<=_ by (try simp only)<;>omega) (.slice gJ gB gA))⟩)
   |(have hT:=Blk.new w12 26 #[.bool et,.slice en ek eh,.slice gJ gB gA];exact⟨_,_,_,_,_,_,_,_,rfl,rfl,hT,(qq.o.ext ((Ext.refl w12).alloc _)).arr,gm.o.alloc _⟩)
 case rest=>
 clear aw av;obtain⟨a14,mV,mT,no,mE,ZE,Y14,ZD,rfl,rfl,oP,oN,cY⟩:=hcut;generalize wc=w15 at *;have HX:=J (HX.o.trans cY);have QX:=J (QX.o.ext cY);have aj:=J (aj.o.ext cY);have ag:=J (ag.o.ext cY);have QY:=J oN;have BY:=J oP;clear oN oP cY;have aw:=aj.o.three;have av:=ag.o.three;have tj:=BY.o.three;go_wp2_with fail;obtain⟨ai,ac,hr2⟩:=Aj ag.o (.bool false) (.slice none 0 0) (.slice none 0 0);refine bodyPost_ret (v:= .tuple #[.agg #[.bool false,.slice none 0 0,.slice none 0 0],.int .i64 2]) (by simp[results,Tryz.results147,go_sem,ai,ac,hr2]) rfl ?_
 exact⟨_,rfl,Ag.zero _ _,((HX.o.setCell (qak _) _).setCell (qak _) _).setCell (qak _) _⟩
theorem PO(w:World)(v0:Value)(p:Int)(q:Nat)(h0:An w v0 p q)(n0:(Ac p.natAbs).length<=1000000)(m0:(Ac q).length<=1000000)(hl:Low p q)(n:Nat)(hn:n<=64)(om:0<n)(hp:p≠0):
  Calls Tryz.prog 147 #[v0,.int .i64 (-(n:Int))] w fun e w'=>∃v',e= .returned (.tuple #[v',.int .i64 0])/\Ag w.heap.size w' v' (CU p q ^ n) (p.natAbs ^ n)/\Ext w w':=by
 have H0:=J h0;have uv:IntKind.i64.wrap (- -(n:Int))=(n:Int):=by rw[qcu];exact IntWalk.i64_in _ (by omega)
 have dZ: - -(n:Int)=(n:Int):=qcu _;have im:¬-(n:Int)< -64:=by omega
 have mN:¬64< -(n:Int):=by omega
 have uA: -(n:Int)<0:=by omega
 have hdv:IT 1 1 (CU p q) p.natAbs=CU p q/\IS 1 1 (CU p q) p.natAbs=p.natAbs:=by
  have h2:=JK (LD hl hp);unfold IT IS;rw[Int.one_mul,qbo];exact h2
 have pU:=J (fun W v u a b=>KF W v 1 1 a (by rw[show (1:Int).natAbs=1 from rfl,Dt];simp) (by rw[Dt];simp) u p q b n0 m0 (by decide) hl.1 hp);rw[hdv.1,hdv.2]at pU;have hi:=Fo n0 m0;have mv:=J (fun W v a=>Kz W v (CU p q) p.natAbs a hi.1 hi.2 n hn);clear hdv hi hl hp;generalize CU p q=P at *;generalize hQ:p.natAbs=Q at *;clear hQ;have dG:=J (fun W=>D9 W 1 (by decide) (by decide));obtain⟨b0,l0,A0,c0,k0,D0,e0,rfl⟩:=h0.shape;clear h0 n0 m0;go_enter Tryz.func147,Tryz.ntmps147;go_upto_region 1 with fail;have hb0:=((Blk.new w 26 #[.bool b0,.slice A0 l0 c0,.slice D0 k0 e0]).alloc (.cells #[.bool false,.slice none 0 0,.slice none 0 0] 26));have am:=(Blk.new (w.alloc (.cells #[.bool b0,.slice A0 l0 c0,.slice D0 k0 e0] 26)) 26 #[.bool false,.slice none 0 0,.slice none 0 0]);have az:=(((Ext.refl w).alloc (.cells #[.bool b0,.slice A0 l0 c0,.slice D0 k0 e0] 26)).alloc (.cells #[.bool false,.slice none 0 0,.slice none 0 0] 26));have aq:w.heap.size+1+1=((w.alloc (.cells #[.bool b0,.slice A0 l0 c0,.slice D0 k0 e0] 26)).alloc (.cells #[.bool false,.slice none 0 0,.slice none 0 0] 26)).heap.size:=by simp
 simp only[World.size_alloc]at am;generalize (w.alloc (.cells #[.bool b0,.slice A0 l0 c0,.slice D0 k0 e0] 26)).alloc (.cells #[.bool false,.slice none 0 0,.slice none 0 0] 26)=wo at *;have aj:=J hb0;have ag:=J am;have HX:=J az;have HZ:Hid (w.heap.size+1+1<=wo.heap.size):=J (by omega);clear az aq hb0 am;have QX:=J (H0.o.ext HX.o);have aw:=aj.o.three;have av:=ag.o.three;go_upto_region 4 with fail
 go_cut [6,7] from 17 to 22 (fun s6 s7 wx=>∃(gx:Nat) (f9:Bool) (g9:Nat) (G9:Option Addr) (j9 y9:Nat) (Y9:Option Addr) (z9:Nat),s6= .pointer (some ⟨gx,0,none⟩)/\s7= .int .i64 0/\Blk wx gx 26 #[.bool f9,.slice G9 g9 j9,.slice Y9 y9 z9]/\An wx (.agg #[.bool f9,.slice G9 g9 j9,.slice Y9 y9 z9]) (P) (Q)/\Ext wo wx)
 case first=>
  have pv:=J (Ext.refl wo).drew
  go_region_law (first
   |(go_simp;go_at_call 146;have sR:=bg;refine(pU.o _ _ _ (by first|exact jt.o.arr|exact(jt.o.arr).ext ((Ext.refl _).alloc _)) (by first|exact QX.o.ext fx.o|exact QX.o.ext (fx.o.alloc _))).mono ?_;rintro e w12 ⟨xP,rfl,dy,bI⟩;have nX:=bI.size;(try simp only[World.size_drew,World.size_alloc]at nX);have jt:=J (by first|exact jt.o.ext bI|exact(jt.o.ext ((Ext.refl _).alloc _)).ext bI);have qq:=J dy;have gm:Hid (Ext wo w12):=J (by first|exact fx.o.trans bI|exact(fx.o.alloc _).trans bI);(try (have dA:=dA.ext bI));(try (have dA:=(Blk.new _ 26 #[.bool false,.slice none 0 0,.slice none 0 0]).ext bI));obtain⟨et,ek,en,eh,gB,gJ,gA,rfl⟩:=dy.shape;clear dy aw av;have aw:=(aj.o.ext gm.o).three;have av:=(ag.o.ext gm.o).three;(try (obtain⟨k0,k1,k2,yT,yS,yR,kz⟩:=dA.three)))
   |(go_simp;go_at_call 59;refine(dG.o _).mono ?_;rintro e eR ⟨yQ,rfl,fm,bg⟩;have nY:=bg.size;(try simp only[World.size_drew,World.size_alloc]at nY);have jt:=J fm;have fx:Hid (Ext wo eR):=J (by first|exact pv.o.trans bg|exact(pv.o.alloc _).trans bg);(try (have dA:=dA.ext bg));(try (have dA:=(Blk.new _ 26 #[.bool false,.slice none 0 0,.slice none 0 0]).ext bg));(try (have dA:=((Blk.new _ 26 #[.bool false,.slice none 0 0,.slice none 0 0]).drew).ext bg;(try simp only[World.size_drew]at dA)));obtain⟨lh,kg,ks,ke,kX,li,kW,rfl⟩:=fm.shape;clear fm aw av;have aw:=(aj.o.ext fx.o).three;have av:=(ag.o.ext fx.o).three;(try (obtain⟨k0,k1,k2,yT,yS,yR,kz⟩:=dA.three))))
  all_goals go_wp2_with fail
  all_goals go_meet
  all_goals have hlw:=gm.o.size
  all_goals first
   |(have kM:Blk w12 wo.heap.size 26 #[.bool false,.slice none 0 0,.slice none 0 0]:=dA;have hT:=((kM.set_ 0 (.bool et)).set_ 1 (.slice en ek eh)).set_ 2 (.slice gJ gB gA);exact⟨_,_,_,_,_,_,_,_,rfl,rfl,hT,(((qq.o.far (a:=⟨wo.heap.size,0,none⟩) (show wo.heap.size<_ by first|omega|(simp<;>omega)) (.bool et)).far (a:=⟨wo.heap.size,1,none⟩) (show wo.heap.size<_ by first|omega|(simp<;>omega)) (.slice en ek eh)).far (a:=⟨wo.heap.size,2,none⟩) (show wo.heap.size<_ by first|omega|(simp<;>omega)) (.slice gJ gB gA)).arr,(((gm.o.setCell (p:=⟨wo.heap.size,0,none⟩) (show wo.heap.size<=_ by (try simp only)<;>omega) (.bool et)).setCell (p:=⟨wo.heap.size,1,none⟩) (show wo.heap.size<=_ by (try simp only)<;>omega) (.slice en ek eh)).setCell (p:=⟨wo.heap.size,2,none⟩) (show wo.heap.size<=_ by (try simp only)<;>omega) (.slice gJ gB gA))⟩)
   |(have kM:Blk w12 eR.heap.size 26 #[.bool false,.slice none 0 0,.slice none 0 0]:=dA;have vY:=fx.o.size;have hT:=((kM.set_ 0 (.bool et)).set_ 1 (.slice en ek eh)).set_ 2 (.slice gJ gB gA);exact⟨_,_,_,_,_,_,_,_,rfl,rfl,hT,(((qq.o.far (a:=⟨eR.heap.size,0,none⟩) (show eR.heap.size<_ by first|omega|(simp<;>omega)) (.bool et)).far (a:=⟨eR.heap.size,1,none⟩) (show eR.heap.size<_ by first|omega|(simp<;>omega)) (.slice en ek eh)).far (a:=⟨eR.heap.size,2,none⟩) (show eR.heap.size<_ by first|omega|(simp<;>omega)) (.slice gJ gB gA)).arr,(((gm.o.setCell (p:=⟨eR.heap.size,0,none⟩) (show wo.heap.size<=_ by (try simp only)<;>omega) (.bool et)).setCell (p:=⟨eR.heap.size,1,none⟩) (show wo.heap.size<=_ by (try simp only)<;>omega) (.slice en ek eh)).setCell (p:=⟨eR.heap.size,2,none⟩) (show wo.heap.size<=_ by (try simp only)<;>omega) (.slice gJ gB gA))⟩)
   |(have hT:=Blk.new w12 26 #[.bool et,.slice en ek eh,.slice gJ gB gA];exact⟨_,_,_,_,_,_,_,_,rfl,rfl,hT,(qq.o.ext ((Ext.refl w12).alloc _)).arr,gm.o.alloc _⟩)
 case rest=>
 clear aw av;obtain⟨a14,mV,mT,no,mE,ZE,Y14,ZD,rfl,rfl,oP,oN,cY⟩:=hcut;generalize wc=w15 at *;have HX:=J (HX.o.trans cY);have QX:=J (QX.o.ext cY);have aj:=J (aj.o.ext cY);have ag:=J (ag.o.ext cY);have QY:=J oN;have BY:=J oP;clear oN oP cY;have aw:=aj.o.three;have av:=ag.o.three;have tj:=BY.o.three;go_wp2_with fail;clear aw av tj;have HLB:=J ag.o.lt;refine(mv.o _ _ QY.o).mono ?_
 rintro e w16 ⟨r15,rfl,sJ,du⟩;have HX:=J (HX.o.trans du);have QX:=J (QX.o.ext du);have QY:=J (QY.o.ext du);have aj:=J (aj.o.ext du);have ag:=J (ag.o.ext du);have BY:=J (BY.o.ext du);have QR:=J sJ;obtain⟨YI,YH,ZB,XB,Xu,YR,Xt,rfl⟩:=sJ.shape;clear sJ;clear du;have aw:=aj.o.three;have av:=ag.o.three;have tj:=BY.o.three;go_wp2_with fail;obtain⟨ai,ac,hr2⟩:=Aj ag.o (.bool YI) (.slice ZB YH XB) (.slice YR Xu Xt);refine bodyPost_ret (v:= .tuple #[.agg #[.bool YI,.slice ZB YH XB,.slice YR Xu Xt],.int .i64 0]) (by simp[results,Tryz.results147,go_sem,ai,ac,hr2]) rfl ?_
 have fd:=HLB.o;exact⟨_,rfl,QR.o.put (by omega) (by omega),((HX.o.setCell (qak _) _).setCell (qak _) _).setCell (qak _) _⟩
open Go.RowKit Go.ChangeMaps
def Vb(p:Int)(q:Nat)(n:Int)(w:World)(e:Ending)(w':World):Prop:=
 ∃v' c P Q,e= .returned (.tuple #[v',.int .i64 c])/\Ag 0 w' v' P Q/\Ext w w'/\(Ac P.natAbs).length<=100000/\(Ac Q).length<=100000/\((c=0/\GK p q n=AN P Q)\/(c=2/\GK p q n=X2.U/\P=0/\Q=0))
theorem I1{p:Int}{L n:Nat}(h:(Ac p.natAbs).length<=32)(hn:n<=64):(Ac (p ^ n).natAbs).length<=100000:=by
 rw[IA];have:=E8 h n;have:n*32<=64*32:=qaF _ hn;omega
theorem I2{q n:Nat}(h:(Ac q).length<=32)(hn:n<=64):(Ac (q ^ n)).length<=100000:=by
 have:=E8 h n;have:n*32<=64*32:=qaF _ hn;omega
theorem Ug(w:World)(v:Value)(p:Int)(q:Nat)(h:Ag 0 w v p q)(hp:(Ac p.natAbs).length<=32)(hq:(Ac q).length<=32)(n:Int)(h1: -64<=n)(h2:n<=64):Calls Tryz.prog 217 #[v,.int .i64 n] w (Vb p q n w):=by
 have aD:(Ac 0).length<=100000:=by rw[Be];exact qaj _
 by_cases hn:0<=n
 ·obtain⟨m,rfl⟩:=qbF hn;refine(P3 w v p q h.arr (by omega) (by omega) m (by omega)).mono ?_
  rintro e w' ⟨v',rfl,hi,hx⟩;exact⟨v',0,_,_,rfl,hi.low0,hx,I1 (L:=0) hp (by omega),I2 hq (by omega),.inl ⟨rfl,by unfold GK;rw[if_pos hn,qaq]⟩⟩
 ·by_cases hp0:p=0
  ·refine(N1 w v p q h.arr (by omega) (by omega) n h1 (by omega) hp0).mono ?_
   rintro e w' ⟨v',rfl,hi,hx⟩;exact⟨v',2,0,0,rfl,hi.low0,hx,aD,aD,.inr ⟨rfl,by unfold GK;rw[if_neg hn,if_pos hp0],rfl,rfl⟩⟩
  ·obtain⟨m,hm⟩:∃m:Nat,n= -(m:Int):=⟨n.natAbs,by omega⟩;subst hm;refine(P4 w v p q h.arr (by omega) (by omega) m (by omega) (by omega) hp0).mono ?_
   rintro e w' ⟨v',rfl,hi,hx⟩;have ay:=Fo hp hq;exact⟨v',0,_,_,rfl,hi.low0,hx,I1 (L:=0) ay.1 (by omega),I2 ay.2 (by omega),.inl ⟨rfl,by unfold GK;rw[if_neg hn,if_neg hp0,qcu,qaq]⟩⟩
theorem UY(w:World)(v:Value)(p:Int)(q:Nat)(h:Ag 0 w v p q)(hp:(Ac p.natAbs).length<=32)(hq:(Ac q).length<=32)(hl:Low p q)(n:Int)(h1: -64<=n)(h2:n<=64):Calls Tryz.prog 147 #[v,.int .i64 n] w (Vb p q n w):=by
 have aD:(Ac 0).length<=100000:=by rw[Be];exact qaj _
 by_cases hn:0<=n
 ·obtain⟨m,rfl⟩:=qbF hn;refine(Kz w v p q h.arr (by omega) (by omega) m (by omega)).mono ?_
  rintro e w' ⟨v',rfl,hi,hx⟩;exact⟨v',0,_,_,rfl,hi.low0,hx,I1 (L:=0) hp (by omega),I2 hq (by omega),.inl ⟨rfl,by unfold GK;rw[if_pos hn,qaq]⟩⟩
 ·by_cases hp0:p=0
  ·refine(NO w v p q h.arr (by omega) (by omega) n h1 (by omega) hp0).mono ?_
   rintro e w' ⟨v',rfl,hi,hx⟩;exact⟨v',2,0,0,rfl,hi.low0,hx,aD,aD,.inr ⟨rfl,by unfold GK;rw[if_neg hn,if_pos hp0],rfl,rfl⟩⟩
  ·obtain⟨m,hm⟩:∃m:Nat,n= -(m:Int):=⟨n.natAbs,by omega⟩;subst hm;refine(PO w v p q h.arr (by omega) (by omega) hl m (by omega) (by omega) hp0).mono ?_
   rintro e w' ⟨v',rfl,hi,hx⟩;have ay:=Fo hp hq;exact⟨v',0,_,_,rfl,hi.low0,hx,I1 (L:=0) ay.1 (by omega),I2 ay.2 (by omega),.inl ⟨rfl,by unfold GK;rw[if_neg hn,if_neg hp0,qcu,qaq]⟩⟩
def U9(p:Int)(q:Nat)(w:World)(e:Ending)(w':World):Prop:=
 ∃v' b P Q,e= .returned (.tuple #[v',.bool b])/\Ag 0 w' v' P Q/\Ext w w'/\(Ac P.natAbs).length<=100000/\(Ac Q).length<=100000/\((b=true/\sqX p q=AN P Q)\/(b=false/\sqX p q=X2.O/\P=0/\Q=0))
theorem Uf{p:Int}{q:Nat}(hp:(Ac p.natAbs).length<=32)(hq:(Ac q).length<=32){w w':World}{e:Ending}(h:El p q w e w'):U9 p q w e w':=by
 obtain⟨v',hx,⟨r,s,rfl,rfl,rfl,hi⟩|⟨mM,rfl,hi⟩⟩:=h
 ·refine⟨v',true,r,s,rfl,hi.low0,hx,?_,?_,.inl ⟨rfl,Jd⟩⟩
  ·rw[qaL]at hp ⊢;rcases qag r with h|h
   ·subst h;rw[Be];exact qaj _
   ·have:=Ay (Nat.le_mul_of_pos_left r h);omega
  ·rcases qag s with h|h
   ·subst h;rw[Be];exact qaj _
   ·have:=Ay (Nat.le_mul_of_pos_left s h);omega
 ·exact⟨v',false,0,0,rfl,hi.low0,hx,by rw[Int.natAbs_zero,Be];exact qaj _,by rw[Be];exact qaj _,.inr ⟨rfl,L4 mM,rfl,rfl⟩⟩
structure Op4 (g:Nat) (w:World) (nc xc yc rc:Array Value):Prop where
 n:Blk w g 95 nc
 x:Blk w (g+1) 26 xc
 y:Blk w (g+2) 26 yc
 r:Blk w (g+3) 26 rc
theorem Op4.ext{g:Nat}{w w':World}{nc xc yc rc:Array Value}(h:Op4 g w nc xc yc rc)(hx:Ext w w'):Op4 g w' nc xc yc rc:=⟨h.n.ext hx,h.x.ext hx,h.y.ext hx,h.r.ext hx⟩
theorem Op4.made(w:World)(nc xc yc rc:Array Value):Op4 w.heap.size ((((w.alloc (.cells nc 95)).alloc (.cells xc 26)).alloc (.cells yc 26)).alloc (.cells rc 26)) nc xc yc rc:=by
 have h2:=(Blk.new (w.alloc (.cells nc 95)) 26 xc);have h3:=(Blk.new ((w.alloc (.cells nc 95)).alloc (.cells xc 26)) 26 yc);have h4:=(Blk.new (((w.alloc (.cells nc 95)).alloc (.cells xc 26)).alloc (.cells yc 26)) 26 rc);simp only[World.size_alloc]at h2 h3 h4;exact⟨(((Blk.new w _ nc).alloc _).alloc _).alloc _,(h2.alloc _).alloc _,h3.alloc _,h4⟩
section
variable {g:Nat} {w:World} {n0 n1 n2 n3 n4 x0 x1 x2 y0 y1 y2 r0 r1 r2:Value}
theorem Op4.cells(h:Op4 g w #[n0,n1,n2,n3,n4] #[x0,x1,x2] #[y0,y1,y2] #[r0,r1,r2]):
  (w.cell? ⟨g,0,none⟩=some n0/\w.cell? ⟨g,1,none⟩=some n1/\w.cell? ⟨g,2,none⟩=some n2/\w.cell? ⟨g,3,none⟩=some n3/\w.cell? ⟨g,4,none⟩=some n4)/\
  (w.cell? ⟨g+1,0,none⟩=some x0/\w.cell? ⟨g+1,1,none⟩=some x1/\w.cell? ⟨g+1,2,none⟩=some x2)/\(w.cell? ⟨g+2,0,none⟩=some y0/\w.cell? ⟨g+2,1,none⟩=some y1/\w.cell? ⟨g+2,2,none⟩=some y2)/\
  (w.cell? ⟨g+3,0,none⟩=some r0/\w.cell? ⟨g+3,1,none⟩=some r1/\w.cell? ⟨g+3,2,none⟩=some r2)/\(w.frozen? ⟨g+3,0,none⟩=false/\w.frozen? ⟨g+3,1,none⟩=false/\w.frozen? ⟨g+3,2,none⟩=false)/\g+3<w.heap.size:=
 ⟨⟨h.n.cell 0,h.n.cell 1,h.n.cell 2,h.n.cell 3,h.n.cell 4⟩,⟨h.x.cell 0,h.x.cell 1,h.x.cell 2⟩,⟨h.y.cell 0,h.y.cell 1,h.y.cell 2⟩,⟨h.r.cell 0,h.r.cell 1,h.r.cell 2⟩,⟨h.r.frozen 0,h.r.frozen 1,h.r.frozen 2⟩,h.r.lt⟩
theorem Op4.far{g:Nat}{w:World}{nc xc yc rc:Array Value}(h:Op4 g w nc xc yc rc){a:Addr}(ha:g+3<a.block)(u:Value):Op4 g (w.setCell a u) nc xc yc rc:=⟨h.n.far (by omega) u,h.x.far (by omega) u,h.y.far (by omega) u,h.r.far (by omega) u⟩
theorem FV:(Ac (1:Int).natAbs).length<=1000000/\(Ac 1).length<=1000000:=by
 refine⟨?_,?_⟩<;>decide+kernel
theorem Pa(p:Int)(q:Nat):decide (p=(q:Int))=(ES (p*((1:Nat):Int)) (1*(q:Int)) == 0):=by
 rw[show p*((1:Nat):Int)=p by simp,Int.one_mul];unfold ES;by_cases h:p=(q:Int)
 ·subst h;simp
 ·rw[decide_eq_false h];split
  ·rfl
  ·split
   ·rfl
   ·omega
theorem KU.three{g:Nat}{w:World}{cs:Array Value}(hb:Blk w g 26 cs)(a b c:Value):KU w (((w.setCell ⟨g,0,none⟩ a).setCell ⟨g,1,none⟩ b).setCell ⟨g,2,none⟩ c):=by
 have ht:26≠183:=by decide
 exact((KU.set hb ht (a:=⟨g,0,none⟩) rfl a).trans (KU.set (hb.set_ 0 a) ht (a:=⟨g,1,none⟩) rfl b)).trans (KU.set ((hb.set_ 0 a).set_ 1 b) ht (a:=⟨g,2,none⟩) rfl c)
theorem Ext.three{g:Nat}{w0 w:World}(hx:Ext w0 w)(hg:w0.heap.size<=g)(a b c:Value):Ext w0 (((w.setCell ⟨g,0,none⟩ a).setCell ⟨g,1,none⟩ b).setCell ⟨g,2,none⟩ c):=
 ((hx.setCell (p:=⟨g,0,none⟩) hg a).setCell (p:=⟨g,1,none⟩) hg b).setCell (p:=⟨g,2,none⟩) hg c
end
def LU(x:X2)(w:World)(e:Ending)(w':World):Prop:=
 ∃v' st P Q,e= .returned (.tuple #[v',.int .i64 st])/\Ag 0 w' v' P Q/\Ext w w'/\(Ac P.natAbs).length<=100000/\(Ac Q).length<=100000/\((st=1/\x=AN P Q)\/(st=2/\x=X2.U/\P=0/\Q=0)\/(st=0/\x=X2.O/\P=0/\Q=0))
noncomputable def opX(x:Nd)(p:Int)(q:Nat)(r:Int)(s:Nat):X2:=if 6<=x.kind/\x.kind<=9 then biX x.kind p q r s else unX x.kind x.n p q
theorem Ax:(Ac (0:Int).natAbs).length<=100000/\(Ac 0).length<=100000/\(Ac 1).length<=100000/\(Ac (1:Int).natAbs).length<=100000:=by
 refine⟨?_,?_,?_,?_⟩<;>decide+kernel
def Gu(w:World)(b:Nat)(E:List (Int × Value)):Prop:=∃es clock,w.heap[b]? =some (.map es clock)/\es.toList.map (fun e=>(e.key,e.val))=E.map fun p=>(.int .i64 p.1,p.2)
theorem Gu.made(w:World):Gu (w.alloc (.map #[] 0)) w.heap.size []:=⟨#[],0,(MapKept.heap_alloc w _).1,rfl⟩
theorem EO{n:Int}(hn:(Lit.int .i64 n).wf=true):keyOf Tryz.prog 3 (.int .i64 n)=some (.int .i64 n):=by
 unfold keyOf;rw[Tryz.underlying3];simp[mapKey,Tryz.underlying3,hn]
theorem FW:Maps.Keyed Tryz.prog 3:=Maps.int_keyed Tryz.underlying3
theorem Gu.keys{es:Array MapEntry}{E:List (Int × Value)}(h:es.toList.map (fun e=>(e.key,e.val))=E.map fun p=>((.int .i64 p.1:Value),p.2))(hw:∀p∈E,(Lit.int .i64 p.1).wf=true):∀e∈es.toList,∃l,keyOf Tryz.prog 3 e.key=some l:=by
 intro e he;have h2:(e.key,e.val)∈es.toList.map (fun e=>(e.key,e.val)):=List.mem_map_of_mem he;rw[h]at h2;obtain⟨p,hp,hq⟩:=qcz.1 h2;rw[<-(Prod.mk.inj hq).1];exact⟨_,EO (hw p hp)⟩
theorem Gu.entry{es:Array MapEntry}{E:List (Int × Value)}(h:es.toList.map (fun e=>(e.key,e.val))=E.map fun p=>((.int .i64 p.1:Value),p.2)){e:MapEntry}(he:e∈es.toList):∃p∈E,e.key= .int .i64 p.1/\e.val=p.2:=by
 have h2:(e.key,e.val)∈es.toList.map (fun e=>(e.key,e.val)):=List.mem_map_of_mem he;rw[h]at h2;obtain⟨p,hp,hq⟩:=qcz.1 h2;exact⟨p,hp,(Prod.mk.inj hq).1.symm,(Prod.mk.inj hq).2.symm⟩
theorem Gu.store{w:World}{b:Nat}{E:List (Int × Value)}(h:Gu w b E)(hw:∀p∈E,(Lit.int .i64 p.1).wf=true)(n:Int)(val:Value)(hn:(Lit.int .i64 n).wf=true)(mM:∀p∈E,p.1≠n){t e:TypeId}(ht:Tryz.prog.underlying t=some (.map 3 e)):
  ∃w',(Instr.mapUpdate t (.map (some b)) (.int .i64 n) val).run Tryz.prog w= .ok () w'/\Gu w' b (E++[(n,val)])/\w.grownBy w' (some b):=by
 obtain⟨es,clock,hb,he⟩:=h;rcases FW.find w (EO hn) es.toList (Gu.keys he hw) with ⟨h1,h2⟩|⟨j,e0,h1,h2,h3⟩
 ·refine⟨setBlock w b (.map (es.push ⟨.int .i64 n,val,clock⟩) (clock+1)),?_,⟨_,_,ChangeMaps.heap_setBlock_same hb _,?_⟩,⟨rfl,rfl,rfl,by simp[setBlock],fun i _ hi=>ChangeMaps.heap_setBlock_other hb _ (fun e=>hi (by rw[e]))⟩⟩
  ·simp[Instr.mapUpdate,run_underlying ht,MapKept.run_getObj_map hb,FW.check w false (EO hn),h1,MapKept.run_setObj_map _ hb,Result.andThen,setBlock]
  ·rw[Array.toList_push,qbc,he,qbc];rfl
 ·obtain⟨p,hp,q1,_⟩:=Gu.entry he (qbf h2);rw[h3]at q1;injection q1 with _ q1
  exact absurd q1.symm (mM p hp)
theorem Gu.look{w:World}{b:Nat}{E:List (Int × Value)}(h:Gu w b E)(hw:∀p∈E,(Lit.int .i64 p.1).wf=true)(n:Int)(val:Value)(hin:(n,val)∈E)(hone:∀p∈E,p.1=n->p.2=val){t e:TypeId}(ht:Tryz.prog.underlying t=some (.map 3 e)){z:Value}(hz:(zeroValue e).run Tryz.prog w= .ok z w):
  (Instr.lookup t (.map (some b)) (.int .i64 n) false).run Tryz.prog w= .ok val w:=by
 obtain⟨es,clock,hb,he⟩:=h;have hn:=hw _ hin;rcases FW.find w (EO hn) es.toList (Gu.keys he hw) with ⟨h1,h2⟩|⟨j,e0,h1,h2,h3⟩
 ·have h4:((.int .i64 n:Value),val)∈es.toList.map (fun e=>(e.key,e.val)):=by rw[he];exact qcz.2 ⟨_,hin,rfl⟩
  obtain⟨e,h5,h6⟩:=qcz.1 h4;exact absurd (Prod.mk.inj h6).1 (h2 e h5)
 ·obtain⟨p,hp,q1,q2⟩:=Gu.entry he (qbf h2);rw[h3]at q1;injection q1 with _ q1
  have h4:e0.val=val:=q2.trans (hone p hp q1.symm);clear hone hin q1 q2 he hw;simp[h4,Instr.lookup,run_underlying ht,MapKept.run_getObj_map hb,FW.check w _ (EO hn),h1,hz,Result.andThen]
theorem Jb(w:World):∃w1 w2 w3,(Instr.mapUpdate 270 (.map (some w.heap.size)) (.int .i64 6) (.func (.func 257) #[] #[])).run Tryz.prog (w.alloc (.map #[] 0))= .ok () w1/\
  (Instr.mapUpdate 270 (.map (some w.heap.size)) (.int .i64 7) (.func (.func 258) #[] #[])).run Tryz.prog w1= .ok () w2/\
  (Instr.mapUpdate 270 (.map (some w.heap.size)) (.int .i64 8) (.func (.func 253) #[] #[])).run Tryz.prog w2= .ok () w3/\
  Gu w3 w.heap.size [(6,.func (.func 257) #[] #[]),(7,.func (.func 258) #[] #[]),(8,.func (.func 253) #[] #[])]/\Ext w w3:=by
 have ht:Tryz.prog.underlying 270=some (.map 3 246):=Tryz.underlying270;obtain⟨w1,r1,m1,g1⟩:=(Gu.made w).store (fun p hp=>by cases hp) 6 (.func (.func 257) #[] #[]) (by decide) (fun p hp=>by cases hp) ht;obtain⟨w2,r2,m2,g2⟩:=m1.store (fun p hp=>by simp only[qaU,qaQ]at hp;rw[hp];decide) 7 (.func (.func 258) #[] #[]) (by decide) (fun p hp=>by simp only[qaU,qaQ]at hp;rw[hp];decide) ht;obtain⟨w3,r3,m3,g3⟩:=m2.store (fun p hp=>by simp only[qaU,qbD,qbl,qbi,or_false]at hp;rcases hp with rfl|rfl<;>decide) 8 (.func (.func 253) #[] #[]) (by decide) (fun p hp=>by simp only[qaU,qbD,qbl,qbi,or_false]at hp;rcases hp with rfl|rfl<;>decide) ht;refine⟨w1,w2,w3,r1,r2,r3,m3,?_⟩;have hr:∀k,some w.heap.size=some k->w.heap.size<=k:=fun k hk=>by injection hk with hk;omega
 exact((((Ext.refl w).alloc (.map #[] 0)).grown g1 hr).grown g2 hr).grown g3 hr
theorem Ur(w:World):Calls Tryz.prog 221 #[.int .i64 6] w fun e w'=>e= .returned (.func (.func 257) #[] #[])/\Ext w w':=by
 obtain⟨w1,w2,w3,r1,r2,r3,hm,hx⟩:=Jb w;have uB:=hm.look (fun p hp=>by simp only[qbl,qbi,or_false]at hp;rcases hp with rfl|rfl|rfl<;>decide) 6 (.func (.func 257) #[] #[]) (by simp) (fun p hp h=>by simp only[qbl,qbi,or_false]at hp;rcases hp with rfl|rfl|rfl<;>first|rfl|exact absurd h (by decide)) (t:=270) Tryz.underlying270 (z:= .nilFunc) (by kernel_rfl);have HX:=J hx;have su:=run_makeMap (P:=Tryz.prog);clear hm hx;go_enter Tryz.func221,Tryz.ntmps221;go_wp2_with fail;go_ret;exact⟨rfl,HX.o⟩
theorem Uq(w:World):Calls Tryz.prog 221 #[.int .i64 7] w fun e w'=>e= .returned (.func (.func 258) #[] #[])/\Ext w w':=by
 obtain⟨w1,w2,w3,r1,r2,r3,hm,hx⟩:=Jb w;have uB:=hm.look (fun p hp=>by simp only[qbl,qbi,or_false]at hp;rcases hp with rfl|rfl|rfl<;>decide) 7 (.func (.func 258) #[] #[]) (by simp) (fun p hp h=>by simp only[qbl,qbi,or_false]at hp;rcases hp with rfl|rfl|rfl<;>first|rfl|exact absurd h (by decide)) (t:=270) Tryz.underlying270 (z:= .nilFunc) (by kernel_rfl);have HX:=J hx;have su:=run_makeMap (P:=Tryz.prog);clear hm hx;go_enter Tryz.func221,Tryz.ntmps221;go_wp2_with fail;go_ret;exact⟨rfl,HX.o⟩
theorem Up(w:World):Calls Tryz.prog 221 #[.int .i64 8] w fun e w'=>e= .returned (.func (.func 253) #[] #[])/\Ext w w':=by
 obtain⟨w1,w2,w3,r1,r2,r3,hm,hx⟩:=Jb w;have uB:=hm.look (fun p hp=>by simp only[qbl,qbi,or_false]at hp;rcases hp with rfl|rfl|rfl<;>decide) 8 (.func (.func 253) #[] #[]) (by simp) (fun p hp h=>by simp only[qbl,qbi,or_false]at hp;rcases hp with rfl|rfl|rfl<;>first|rfl|exact absurd h (by decide)) (t:=270) Tryz.underlying270 (z:= .nilFunc) (by kernel_rfl);have HX:=J hx;have su:=run_makeMap (P:=Tryz.prog);clear hm hx;go_enter Tryz.func221,Tryz.ntmps221;go_wp2_with fail;go_ret;exact⟨rfl,HX.o⟩
theorem ED (w:World) (k a b n:Int) (t:Tx) (hk:5<=k/\k<=16) (dN: -64<=n) (hn2:n<=64) (i4:k≠10->n=0) (vx vy:Value) (p:Int) (q:Nat) (r:Int) (s:Nat) (hx:Ag 0 w vx p q) (lx:Low p q) (px:(Ac p.natAbs).length<=32) (qx:(Ac q).length<=32)
  (hy:Ag 0 w vy r s) (ly:Low r s) (py:(Ac r.natAbs).length<=32) (qy:(Ac s).length<=32) (il:k=9->r≠0):
  Calls Tryz.prog 186 #[ndV ⟨k,a,b,n,t⟩,vx,vy] w (LU (opX ⟨k,a,b,n,t⟩ p q r s) w):=by
 have iq:=J hx;have yt:=J hy;have fo:=J (fun W v a=>Da W v p q a (by omega) (by omega));obtain⟨b0,l0,A0,c0,k0,D0,e0,rfl⟩:=hx.shape;obtain⟨b1,l1,A1,c1,k1,D1,e1,rfl⟩:=hy.shape;obtain⟨t',ht⟩:∃s:ByteArray,str t= .string s:=⟨_,rfl⟩;simp only[ndV,ht];clear hx hy ht;go_enter Tryz.func186,Tryz.ntmps186;go_wp2_with fail;have HB:=J (Op4.made w #[.int .i64 k,.int .i64 a,.int .i64 b,.int .i64 n,.string t'] #[.bool b0,.slice A0 l0 c0,.slice D0 k0 e0] #[.bool b1,.slice A1 l1 c1,.slice D1 k1 e1] #[.bool false,.slice none 0 0,.slice none 0 0]);have HX:=J ((((((Ext.refl w).alloc (.cells #[.int .i64 k,.int .i64 a,.int .i64 b,.int .i64 n,.string t'] 95)).alloc (.cells #[.bool b0,.slice A0 l0 c0,.slice D0 k0 e0] 26)).alloc (.cells #[.bool b1,.slice A1 l1 c1,.slice D1 k1 e1] 26)).alloc (.cells #[.bool false,.slice none 0 0,.slice none 0 0] 26)));generalize (((w.alloc (.cells #[.int .i64 k,.int .i64 a,.int .i64 b,.int .i64 n,.string t'] 95)).alloc (.cells #[.bool b0,.slice A0 l0 c0,.slice D0 k0 e0] 26)).alloc (.cells #[.bool b1,.slice A1 l1 c1,.slice D1 k1 e1] 26)).alloc (.cells #[.bool false,.slice none 0 0,.slice none 0 0] 26)=wo at *;refine(fo.o _ _ (iq.o.arr.ext HX.o)).mono ?_
 rintro e w1 ⟨rfl,ak⟩;have HB:=J (HB.o.ext ak);have HX:=J (HX.o.trans ak);clear ak;obtain⟨zb,fg⟩:∃zb,(sgZ p == 0)=zb:=⟨_,rfl⟩;have uC:k=5\/k=6\/k=7\/k=8\/k=9\/k=10\/k=11\/k=12\/k=13\/k=14\/k=15\/k=16:=by omega
 rcases uC with rfl|rfl|rfl|rfl|rfl|rfl|rfl|rfl|rfl|rfl|rfl|rfl
 ·obtain⟨⟨ao,cn,ck,cj,ch⟩,⟨bV,bU,bT⟩,⟨b7,bZ,bX⟩,⟨cg,cd,b9⟩,⟨cr,cq,cp⟩,co⟩:=HB.o.cells;go_wp2_with fail;clear ao cn ck cj ch bV bU bT b7 bZ bX cg cd b9 cr cq cp co;refine(GS _ _ p q (iq.o.arr.ext HX.o) (by omega) (by omega)).mono ?_
  rintro e w2 ⟨v2,rfl,ay,ah⟩;have HB:=J (HB.o.ext ah);have HX:=J (HX.o.trans ah);have R2:=J ay;obtain⟨f2,g2,G2,j2,y2,Y2,z2,rfl⟩:=ay.shape;clear ay;clear ah;obtain⟨⟨ao,cn,ck,cj,ch⟩,⟨bV,bU,bT⟩,⟨b7,bZ,bX⟩,⟨cg,cd,b9⟩,⟨cr,cq,cp⟩,co⟩:=HB.o.cells;go_wp2_with fail;obtain⟨ai,ac,hr2⟩:=Aj HB.o.r (.bool f2) (.slice G2 g2 j2) (.slice Y2 y2 z2);refine bodyPost_ret (v:= .tuple #[.agg #[.bool f2,.slice G2 g2 j2,.slice Y2 y2 z2],.int .i64 1]) (by simp[results,Tryz.results186,go_sem,ai,ac,hr2]) rfl ?_
  exact⟨_,1,_,_,rfl,R2.o.low0.ku (KU.three HB.o.r _ _ _),HX.o.three (show w.heap.size<=w.heap.size+3 by omega) _ _ _,by rw[qbS];omega,by omega,.inl ⟨rfl,by simp[opX,unX]⟩⟩
 ·have cA:=Ld px qx py qy;have hne:∀W,(binOp .neq 246 (.func (.func 257) #[] #[]) .nilFunc).run Tryz.prog W= .ok (.bool true) W:=fun W=>by kernel_rfl
  obtain⟨⟨ao,cn,ck,cj,ch⟩,⟨bV,bU,bT⟩,⟨b7,bZ,bX⟩,⟨cg,cd,b9⟩,⟨cr,cq,cp⟩,co⟩:=HB.o.cells;go_wp2_with fail;clear ao cn ck cj ch bV bU bT b7 bZ bX cg cd b9 cr cq cp co;refine(Ur _).mono ?_
  rintro e w2 ⟨rfl,ah⟩;have HB:=J (HB.o.ext ah);have HX:=J (HX.o.trans ah);clear ah;obtain⟨⟨ao,cn,ck,cj,ch⟩,⟨bV,bU,bT⟩,⟨b7,bZ,bX⟩,⟨cg,cd,b9⟩,⟨cr,cq,cp⟩,co⟩:=HB.o.cells;go_wp2_with fail;clear ao cn ck cj ch bV bU bT b7 bZ bX cg cd b9 cr cq cp co;refine(M6 _ _ p q (iq.o.arr.ext HX.o) (by omega) (by omega) _ r s (yt.o.arr.ext HX.o) (by omega) (by omega) lx.1 ly.1).mono ?_
  rintro e w3 ⟨v3,rfl,cE,ah⟩;have HB:=J (HB.o.ext ah);have HX:=J (HX.o.trans ah);have R3:=J cE;obtain⟨f3,g3,G3,j3,y3,Y3,z3,rfl⟩:=cE.shape;clear cE;clear ah;obtain⟨⟨ao,cn,ck,cj,ch⟩,⟨bV,bU,bT⟩,⟨b7,bZ,bX⟩,⟨cg,cd,b9⟩,⟨cr,cq,cp⟩,co⟩:=HB.o.cells;go_wp2_with fail;obtain⟨ai,ac,hr2⟩:=Aj HB.o.r (.bool f3) (.slice G3 g3 j3) (.slice Y3 y3 z3);refine bodyPost_ret (v:= .tuple #[.agg #[.bool f3,.slice G3 g3 j3,.slice Y3 y3 z3],.int .i64 1]) (by simp[results,Tryz.results186,go_sem,ai,ac,hr2]) rfl ?_
  exact⟨_,1,_,_,rfl,R3.o.low0.ku (KU.three HB.o.r _ _ _),HX.o.three (show w.heap.size<=w.heap.size+3 by omega) _ _ _,by omega,by omega,.inl ⟨rfl,by simp[opX,biX]⟩⟩
 ·have cA:=Ld px qx (Ri py) qy;have hne:∀W,(binOp .neq 246 (.func (.func 258) #[] #[]) .nilFunc).run Tryz.prog W= .ok (.bool true) W:=fun W=>by kernel_rfl
  obtain⟨⟨ao,cn,ck,cj,ch⟩,⟨bV,bU,bT⟩,⟨b7,bZ,bX⟩,⟨cg,cd,b9⟩,⟨cr,cq,cp⟩,co⟩:=HB.o.cells;go_wp2_with fail;clear ao cn ck cj ch bV bU bT b7 bZ bX cg cd b9 cr cq cp co;refine(Uq _).mono ?_
  rintro e w2 ⟨rfl,ah⟩;have HB:=J (HB.o.ext ah);have HX:=J (HX.o.trans ah);clear ah;obtain⟨⟨ao,cn,ck,cj,ch⟩,⟨bV,bU,bT⟩,⟨b7,bZ,bX⟩,⟨cg,cd,b9⟩,⟨cr,cq,cp⟩,co⟩:=HB.o.cells;go_wp2_with fail;clear ao cn ck cj ch bV bU bT b7 bZ bX cg cd b9 cr cq cp co;refine(Rn _ _ p q (iq.o.arr.ext HX.o) (by omega) (by omega) _ r s (yt.o.arr.ext HX.o) (by omega) (by omega) lx.1 ly.1).mono ?_
  rintro e w3 ⟨v3,rfl,cE,ah⟩;have HB:=J (HB.o.ext ah);have HX:=J (HX.o.trans ah);have R3:=J cE;obtain⟨f3,g3,G3,j3,y3,Y3,z3,rfl⟩:=cE.shape;clear cE;clear ah;obtain⟨⟨ao,cn,ck,cj,ch⟩,⟨bV,bU,bT⟩,⟨b7,bZ,bX⟩,⟨cg,cd,b9⟩,⟨cr,cq,cp⟩,co⟩:=HB.o.cells;go_wp2_with fail;obtain⟨ai,ac,hr2⟩:=Aj HB.o.r (.bool f3) (.slice G3 g3 j3) (.slice Y3 y3 z3);refine bodyPost_ret (v:= .tuple #[.agg #[.bool f3,.slice G3 g3 j3,.slice Y3 y3 z3],.int .i64 1]) (by simp[results,Tryz.results186,go_sem,ai,ac,hr2]) rfl ?_
  exact⟨_,1,_,_,rfl,R3.o.low0.ku (KU.three HB.o.r _ _ _),HX.o.three (show w.heap.size<=w.heap.size+3 by omega) _ _ _,by omega,by omega,.inl ⟨rfl,by simp[opX,biX]⟩⟩
 ·have cA:=Lc px qx py qy;have hne:∀W,(binOp .neq 246 (.func (.func 253) #[] #[]) .nilFunc).run Tryz.prog W= .ok (.bool true) W:=fun W=>by kernel_rfl
  obtain⟨⟨ao,cn,ck,cj,ch⟩,⟨bV,bU,bT⟩,⟨b7,bZ,bX⟩,⟨cg,cd,b9⟩,⟨cr,cq,cp⟩,co⟩:=HB.o.cells;go_wp2_with fail;clear ao cn ck cj ch bV bU bT b7 bZ bX cg cd b9 cr cq cp co;refine(Up _).mono ?_
  rintro e w2 ⟨rfl,ah⟩;have HB:=J (HB.o.ext ah);have HX:=J (HX.o.trans ah);clear ah;obtain⟨⟨ao,cn,ck,cj,ch⟩,⟨bV,bU,bT⟩,⟨b7,bZ,bX⟩,⟨cg,cd,b9⟩,⟨cr,cq,cp⟩,co⟩:=HB.o.cells;go_wp2_with fail;clear ao cn ck cj ch bV bU bT b7 bZ bX cg cd b9 cr cq cp co;refine(Mz _ _ p q (iq.o.arr.ext HX.o) (by omega) (by omega) _ r s (yt.o.arr.ext HX.o) (by omega) (by omega) lx.1 ly.1).mono ?_
  rintro e w3 ⟨v3,rfl,cE,ah⟩;have HB:=J (HB.o.ext ah);have HX:=J (HX.o.trans ah);have R3:=J cE;obtain⟨f3,g3,G3,j3,y3,Y3,z3,rfl⟩:=cE.shape;clear cE;clear ah;obtain⟨⟨ao,cn,ck,cj,ch⟩,⟨bV,bU,bT⟩,⟨b7,bZ,bX⟩,⟨cg,cd,b9⟩,⟨cr,cq,cp⟩,co⟩:=HB.o.cells;go_wp2_with fail;obtain⟨ai,ac,hr2⟩:=Aj HB.o.r (.bool f3) (.slice G3 g3 j3) (.slice Y3 y3 z3);refine bodyPost_ret (v:= .tuple #[.agg #[.bool f3,.slice G3 g3 j3,.slice Y3 y3 z3],.int .i64 1]) (by simp[results,Tryz.results186,go_sem,ai,ac,hr2]) rfl ?_
  exact⟨_,1,_,_,rfl,R3.o.low0.ku (KU.three HB.o.r _ _ _),HX.o.three (show w.heap.size<=w.heap.size+3 by omega) _ _ _,by omega,by omega,.inl ⟨rfl,by simp[opX,biX]⟩⟩
 ·obtain rfl:n=0:=i4 (by decide);clear i4;have hr:=il rfl;clear il;have cA:=Lc px qx (Fo py qy).1 (Fo py qy).2;obtain⟨⟨ao,cn,ck,cj,ch⟩,⟨bV,bU,bT⟩,⟨b7,bZ,bX⟩,⟨cg,cd,b9⟩,⟨cr,cq,cp⟩,co⟩:=HB.o.cells;go_wp2_with fail;clear ao cn ck cj ch bV bU bT b7 bZ bX cg cd b9 cr cq cp co;refine(Ug _ _ p q (iq.o.ext HX.o) px qx 0 (by decide) (by decide)).mono ?_
  rintro e w2 ⟨v2,c2,P,Q,rfl,ay,ah,hP,hQ,fh⟩;have HB:=J (HB.o.ext ah);have HX:=J (HX.o.trans ah);have R2:=J ay;obtain⟨f2,g2,G2,j2,y2,Y2,z2,rfl⟩:=ay.shape;clear ay;clear ah;clear hP hQ fh;obtain⟨⟨ao,cn,ck,cj,ch⟩,⟨bV,bU,bT⟩,⟨b7,bZ,bX⟩,⟨cg,cd,b9⟩,⟨cr,cq,cp⟩,co⟩:=HB.o.cells;go_upto_region 11 with fail;clear ao cn ck cj ch bV bU bT b7 bZ bX cg cd b9 cr cq cp co;have gc:=HB.o.r.lt;have hb:=Blk.new w2 26 #[.bool f2,.slice G2 g2 j2,.slice Y2 y2 z2];have fF:=(Ext.refl w2).alloc (.cells #[.bool f2,.slice G2 g2 j2,.slice Y2 y2 z2] 26);generalize w2.alloc (.cells #[.bool f2,.slice G2 g2 j2,.slice Y2 y2 z2] 26)=wa at *;have eO:=J hb;have HB:=J (HB.o.ext fF);have HX:=J (HX.o.trans fF);have R2:=J (R2.o.ext fF);have kp:=J gc;generalize w2.heap.size=ap at *;clear hb fF gc;obtain⟨⟨ao,cn,ck,cj,ch⟩,⟨bV,bU,bT⟩,⟨b7,bZ,bX⟩,⟨cg,cd,b9⟩,⟨cr,cq,cp⟩,co⟩:=HB.o.cells;have kY:=eO.o.three;go_wp2_with fail;clear ao cn ck cj ch bV bU bT b7 bZ bX cg cd b9 cr cq cp co;refine(SK _ _ p q (iq.o.arr.ext HX.o) (by omega) (by omega) _ r s (yt.o.arr.ext HX.o) (by omega) (by omega) lx.1 hr).mono ?_
  rintro e w4 ⟨v4,rfl,fB,ah⟩;have HB:=J (HB.o.ext ah);have HX:=J (HX.o.trans ah);have R4:=J fB;obtain⟨f4,g4,G4,j4,y4,Y4,z4,rfl⟩:=fB.shape;clear fB;have eO:=J (eO.o.ext ah);clear ah;clear kY;obtain⟨⟨ao,cn,ck,cj,ch⟩,⟨bV,bU,bT⟩,⟨b7,bZ,bX⟩,⟨cg,cd,b9⟩,⟨cr,cq,cp⟩,co⟩:=HB.o.cells;have kY:=eO.o.three;go_upto_region 13 with fail;have hpb:=((eO.o.set_ 0 (.bool f4)).set_ 1 (.slice G4 g4 j4)).set_ 2 (.slice Y4 y4 z4);have dR:=((HB.o.far (a:=⟨ap,0,none⟩) kp.o (.bool f4)).far (a:=⟨ap,1,none⟩) kp.o (.slice G4 g4 j4)).far (a:=⟨ap,2,none⟩) kp.o (.slice Y4 y4 z4);have oc:=R4.o.low0.ku (KU.three eO.o (.bool f4) (.slice G4 g4 j4) (.slice Y4 y4 z4));have aI:=HX.o.three (g:=ap) (by have:=kp.o;omega) (.bool f4) (.slice G4 g4 j4) (.slice Y4 y4 z4);generalize ((w4.setCell ⟨ap,0,none⟩ (.bool f4)).setCell ⟨ap,1,none⟩ (.slice G4 g4 j4)).setCell ⟨ap,2,none⟩ (.slice Y4 y4 z4)=w5 at *;have eO:=J hpb;have HB:=J dR;have R4:=J oc;have HX:=J aI;clear hpb dR oc aI kY;clear ao cn ck cj ch bV bU bT b7 bZ bX cg cd b9 cr cq cp co;have kY:=eO.o.three;obtain⟨⟨ao,cn,ck,cj,ch⟩,⟨bV,bU,bT⟩,⟨b7,bZ,bX⟩,⟨cg,cd,b9⟩,⟨cr,cq,cp⟩,co⟩:=HB.o.cells;go_wp2_with fail;obtain⟨ai,ac,hr2⟩:=Aj HB.o.r (.bool f4) (.slice G4 g4 j4) (.slice Y4 y4 z4);refine bodyPost_ret (v:= .tuple #[.agg #[.bool f4,.slice G4 g4 j4,.slice Y4 y4 z4],.int .i64 1]) (by simp[results,Tryz.results186,go_sem,ai,ac,hr2]) rfl ?_
  exact⟨_,1,_,_,rfl,R4.o.low0.ku (KU.three HB.o.r _ _ _),HX.o.three (show w.heap.size<=w.heap.size+3 by omega) _ _ _,by omega,by omega,.inl ⟨rfl,by simp[opX,biX,hr]⟩⟩
 ·clear i4;obtain⟨⟨ao,cn,ck,cj,ch⟩,⟨bV,bU,bT⟩,⟨b7,bZ,bX⟩,⟨cg,cd,b9⟩,⟨cr,cq,cp⟩,co⟩:=HB.o.cells;go_wp2_with fail;clear ao cn ck cj ch bV bU bT b7 bZ bX cg cd b9 cr cq cp co;refine(Ug _ _ p q (iq.o.ext HX.o) px qx n dN hn2).mono ?_
  rintro e w2 ⟨v2,c2,P,Q,rfl,ay,ah,hP,hQ,fh⟩;have HB:=J (HB.o.ext ah);have HX:=J (HX.o.trans ah);have R2:=J ay;obtain⟨f2,g2,G2,j2,y2,Y2,z2,rfl⟩:=ay.shape;clear ay;clear ah;go_upto_region 11 with fail;have gc:=HB.o.r.lt;have hb:=Blk.new w2 26 #[.bool f2,.slice G2 g2 j2,.slice Y2 y2 z2];have fF:=(Ext.refl w2).alloc (.cells #[.bool f2,.slice G2 g2 j2,.slice Y2 y2 z2] 26);generalize w2.alloc (.cells #[.bool f2,.slice G2 g2 j2,.slice Y2 y2 z2] 26)=wa at *;have eO:=J hb;have HB:=J (HB.o.ext fF);have HX:=J (HX.o.trans fF);have R2:=J (R2.o.ext fF);have kp:=J gc;generalize w2.heap.size=ap at *;clear hb fF gc;rcases fh with ⟨rfl,fh⟩|⟨rfl,fh,rfl,rfl⟩
  ·have kY:=eO.o.three;obtain⟨⟨ao,cn,ck,cj,ch⟩,⟨bV,bU,bT⟩,⟨b7,bZ,bX⟩,⟨cg,cd,b9⟩,⟨cr,cq,cp⟩,co⟩:=HB.o.cells;go_wp2_with fail;obtain⟨ai,ac,hr2⟩:=Aj HB.o.r (.bool f2) (.slice G2 g2 j2) (.slice Y2 y2 z2);refine bodyPost_ret (v:= .tuple #[.agg #[.bool f2,.slice G2 g2 j2,.slice Y2 y2 z2],.int .i64 1]) (by simp[results,Tryz.results186,go_sem,ai,ac,hr2]) rfl ?_
   exact⟨_,1,_,_,rfl,R2.o.low0.ku (KU.three HB.o.r _ _ _),HX.o.three (show w.heap.size<=w.heap.size+3 by omega) _ _ _,hP,hQ,.inl ⟨rfl,by simp[opX,unX,fh]⟩⟩
  ·have kY:=eO.o.three;obtain⟨⟨ao,cn,ck,cj,ch⟩,⟨bV,bU,bT⟩,⟨b7,bZ,bX⟩,⟨cg,cd,b9⟩,⟨cr,cq,cp⟩,co⟩:=HB.o.cells;go_wp2_with fail;obtain⟨ai,ac,hr2⟩:=Aj HB.o.r (.bool false) (.slice none 0 0) (.slice none 0 0);refine bodyPost_ret (v:= .tuple #[.agg #[.bool false,.slice none 0 0,.slice none 0 0],.int .i64 2]) (by simp[results,Tryz.results186,go_sem,ai,ac,hr2]) rfl ?_
   exact⟨_,2,_,_,rfl,Ag.zero _ _,HX.o.three (show w.heap.size<=w.heap.size+3 by omega) _ _ _,Ax.1,Ax.2.1,.inr (.inl ⟨rfl,by simp[opX,unX,fh],rfl,rfl⟩)⟩
 ·by_cases hp:p<0
  ·have hs:sgZ p= -1:=if_pos hp;rw[hs]at fo;obtain⟨⟨ao,cn,ck,cj,ch⟩,⟨bV,bU,bT⟩,⟨b7,bZ,bX⟩,⟨cg,cd,b9⟩,⟨cr,cq,cp⟩,co⟩:=HB.o.cells;go_wp2_with fail;clear ao cn ck cj ch bV bU bT b7 bZ bX cg cd b9 cr cq cp co;refine(fo.o _ _ (iq.o.arr.ext HX.o)).mono ?_
   rintro e w2 ⟨rfl,ah⟩;have HB:=J (HB.o.ext ah);have HX:=J (HX.o.trans ah);clear ah;obtain⟨⟨ao,cn,ck,cj,ch⟩,⟨bV,bU,bT⟩,⟨b7,bZ,bX⟩,⟨cg,cd,b9⟩,⟨cr,cq,cp⟩,co⟩:=HB.o.cells;go_wp2_with fail;obtain⟨ai,ac,hr2⟩:=Aj HB.o.r (.bool false) (.slice none 0 0) (.slice none 0 0);refine bodyPost_ret (v:= .tuple #[.agg #[.bool false,.slice none 0 0,.slice none 0 0],.int .i64 2]) (by simp[results,Tryz.results186,go_sem,ai,ac,hr2]) rfl ?_
   exact⟨_,2,_,_,rfl,Ag.zero _ _,HX.o.three (show w.heap.size<=w.heap.size+3 by omega) _ _ _,Ax.1,Ax.2.1,.inr (.inl ⟨rfl,by simp[opX,unX,hp],rfl,rfl⟩)⟩
  ·have hs:decide (sgZ p<0)=false:=decide_eq_false (by unfold sgZ;split<;>(try split)<;>omega);obtain⟨⟨ao,cn,ck,cj,ch⟩,⟨bV,bU,bT⟩,⟨b7,bZ,bX⟩,⟨cg,cd,b9⟩,⟨cr,cq,cp⟩,co⟩:=HB.o.cells;go_wp2_with fail;clear ao cn ck cj ch bV bU bT b7 bZ bX cg cd b9 cr cq cp co;refine(fo.o _ _ (iq.o.arr.ext HX.o)).mono ?_
   rintro e w2 ⟨rfl,ah⟩;have HB:=J (HB.o.ext ah);have HX:=J (HX.o.trans ah);clear ah;obtain⟨⟨ao,cn,ck,cj,ch⟩,⟨bV,bU,bT⟩,⟨b7,bZ,bX⟩,⟨cg,cd,b9⟩,⟨cr,cq,cp⟩,co⟩:=HB.o.cells;go_wp2_with fail;clear ao cn ck cj ch bV bU bT b7 bZ bX cg cd b9 cr cq cp co;refine((Pt _ _ p q (iq.o.arr.ext HX.o) (by omega) (by omega)).mono (fun _ _ h=>Uf px qx h)).mono ?_
   rintro e w3 ⟨v3,bb,P,Q,rfl,cE,ah,hP,hQ,fh⟩;have HB:=J (HB.o.ext ah);have HX:=J (HX.o.trans ah);have R3:=J cE;obtain⟨f3,g3,G3,j3,y3,Y3,z3,rfl⟩:=cE.shape;clear cE;clear ah;obtain⟨⟨ao,cn,ck,cj,ch⟩,⟨bV,bU,bT⟩,⟨b7,bZ,bX⟩,⟨cg,cd,b9⟩,⟨cr,cq,cp⟩,co⟩:=HB.o.cells;go_upto_region 20 with fail;clear ao cn ck cj ch bV bU bT b7 bZ bX cg cd b9 cr cq cp co;have gc:=HB.o.r.lt;have hb:=Blk.new w3 26 #[.bool f3,.slice G3 g3 j3,.slice Y3 y3 z3];have fF:=(Ext.refl w3).alloc (.cells #[.bool f3,.slice G3 g3 j3,.slice Y3 y3 z3] 26);generalize w3.alloc (.cells #[.bool f3,.slice G3 g3 j3,.slice Y3 y3 z3] 26)=wa at *;have eO:=J hb;have HB:=J (HB.o.ext fF);have HX:=J (HX.o.trans fF);have R3:=J (R3.o.ext fF);have kp:=J gc;generalize w3.heap.size=ap at *;clear hb fF gc;rcases fh with ⟨rfl,fh⟩|⟨rfl,fh,rfl,rfl⟩
   ·have kY:=eO.o.three;obtain⟨⟨ao,cn,ck,cj,ch⟩,⟨bV,bU,bT⟩,⟨b7,bZ,bX⟩,⟨cg,cd,b9⟩,⟨cr,cq,cp⟩,co⟩:=HB.o.cells;go_wp2_with fail;obtain⟨ai,ac,hr2⟩:=Aj HB.o.r (.bool f3) (.slice G3 g3 j3) (.slice Y3 y3 z3);refine bodyPost_ret (v:= .tuple #[.agg #[.bool f3,.slice G3 g3 j3,.slice Y3 y3 z3],.int .i64 1]) (by simp[results,Tryz.results186,go_sem,ai,ac,hr2]) rfl ?_
    exact⟨_,1,_,_,rfl,R3.o.low0.ku (KU.three HB.o.r _ _ _),HX.o.three (show w.heap.size<=w.heap.size+3 by omega) _ _ _,hP,hQ,.inl ⟨rfl,by simp[opX,unX,fh];intro h;omega⟩⟩
   ·have kY:=eO.o.three;obtain⟨⟨ao,cn,ck,cj,ch⟩,⟨bV,bU,bT⟩,⟨b7,bZ,bX⟩,⟨cg,cd,b9⟩,⟨cr,cq,cp⟩,co⟩:=HB.o.cells;go_wp2_with fail;obtain⟨ai,ac,hr2⟩:=Aj HB.o.r (.bool false) (.slice none 0 0) (.slice none 0 0);refine bodyPost_ret (v:= .tuple #[.agg #[.bool false,.slice none 0 0,.slice none 0 0],.int .i64 0]) (by simp[results,Tryz.results186,go_sem,ai,ac,hr2]) rfl ?_
    exact⟨_,0,_,_,rfl,Ag.zero _ _,HX.o.three (show w.heap.size<=w.heap.size+3 by omega) _ _ _,Ax.1,Ax.2.1,.inr (.inr ⟨rfl,by simp[opX,unX,fh];intro h;omega,rfl,rfl⟩)⟩
 ·cases zb
  ·have hp:p≠0:=by rintro rfl;simp[sgZ]at fg
   obtain⟨⟨ao,cn,ck,cj,ch⟩,⟨bV,bU,bT⟩,⟨b7,bZ,bX⟩,⟨cg,cd,b9⟩,⟨cr,cq,cp⟩,co⟩:=HB.o.cells;go_wp2_with fail;obtain⟨ai,ac,hr2⟩:=Aj HB.o.r (.bool false) (.slice none 0 0) (.slice none 0 0);refine bodyPost_ret (v:= .tuple #[.agg #[.bool false,.slice none 0 0,.slice none 0 0],.int .i64 0]) (by simp[results,Tryz.results186,go_sem,ai,ac,hr2]) rfl ?_
   exact⟨_,0,_,_,rfl,Ag.zero _ _,HX.o.three (show w.heap.size<=w.heap.size+3 by omega) _ _ _,Ax.1,Ax.2.1,.inr (.inr ⟨rfl,by simp[opX,unX,hp],rfl,rfl⟩)⟩
  ·have hp:p=0:=by unfold sgZ at fg;split at fg<;>(try split at fg)<;>first|omega|(simp at fg)
   obtain⟨⟨ao,cn,ck,cj,ch⟩,⟨bV,bU,bT⟩,⟨b7,bZ,bX⟩,⟨cg,cd,b9⟩,⟨cr,cq,cp⟩,co⟩:=HB.o.cells;go_wp2_with fail;clear ao cn ck cj ch bV bU bT b7 bZ bX cg cd b9 cr cq cp co;refine(Ec _ 1 (by decide) (by decide)).mono ?_
   rintro e w2 ⟨v2,rfl,ay,ah⟩;have HB:=J (HB.o.ext ah);have HX:=J (HX.o.trans ah);have R2:=J ay;obtain⟨f2,g2,G2,j2,y2,Y2,z2,rfl⟩:=ay.shape;clear ay;clear ah;obtain⟨⟨ao,cn,ck,cj,ch⟩,⟨bV,bU,bT⟩,⟨b7,bZ,bX⟩,⟨cg,cd,b9⟩,⟨cr,cq,cp⟩,co⟩:=HB.o.cells;go_wp2_with fail;obtain⟨ai,ac,hr2⟩:=Aj HB.o.r (.bool f2) (.slice G2 g2 j2) (.slice Y2 y2 z2);refine bodyPost_ret (v:= .tuple #[.agg #[.bool f2,.slice G2 g2 j2,.slice Y2 y2 z2],.int .i64 1]) (by simp[results,Tryz.results186,go_sem,ai,ac,hr2]) rfl ?_
   exact⟨_,1,_,_,rfl,R2.o.low0.ku (KU.three HB.o.r _ _ _),HX.o.three (show w.heap.size<=w.heap.size+3 by omega) _ _ _,Ax.2.2.2,Ax.2.2.1,.inl ⟨rfl,by simp[opX,unX,hp]⟩⟩
 ·by_cases hp:p<=0
  ·have hs:decide (sgZ p<=0)=true:=decide_eq_true (by unfold sgZ;split<;>(try split)<;>omega);obtain⟨⟨ao,cn,ck,cj,ch⟩,⟨bV,bU,bT⟩,⟨b7,bZ,bX⟩,⟨cg,cd,b9⟩,⟨cr,cq,cp⟩,co⟩:=HB.o.cells;go_wp2_with fail;clear ao cn ck cj ch bV bU bT b7 bZ bX cg cd b9 cr cq cp co;refine(fo.o _ _ (iq.o.arr.ext HX.o)).mono ?_
   rintro e w2 ⟨rfl,ah⟩;have HB:=J (HB.o.ext ah);have HX:=J (HX.o.trans ah);clear ah;obtain⟨⟨ao,cn,ck,cj,ch⟩,⟨bV,bU,bT⟩,⟨b7,bZ,bX⟩,⟨cg,cd,b9⟩,⟨cr,cq,cp⟩,co⟩:=HB.o.cells;go_wp2_with fail;obtain⟨ai,ac,hr2⟩:=Aj HB.o.r (.bool false) (.slice none 0 0) (.slice none 0 0);refine bodyPost_ret (v:= .tuple #[.agg #[.bool false,.slice none 0 0,.slice none 0 0],.int .i64 2]) (by simp[results,Tryz.results186,go_sem,ai,ac,hr2]) rfl ?_
   exact⟨_,2,_,_,rfl,Ag.zero _ _,HX.o.three (show w.heap.size<=w.heap.size+3 by omega) _ _ _,Ax.1,Ax.2.1,.inr (.inl ⟨rfl,by simp[opX,unX,hp],rfl,rfl⟩)⟩
  ·have hs:decide (sgZ p<=0)=false:=decide_eq_false (by unfold sgZ;split<;>(try split)<;>omega);obtain⟨⟨ao,cn,ck,cj,ch⟩,⟨bV,bU,bT⟩,⟨b7,bZ,bX⟩,⟨cg,cd,b9⟩,⟨cr,cq,cp⟩,co⟩:=HB.o.cells;go_wp2_with fail;clear ao cn ck cj ch bV bU bT b7 bZ bX cg cd b9 cr cq cp co;refine(fo.o _ _ (iq.o.arr.ext HX.o)).mono ?_
   rintro e w2 ⟨rfl,ah⟩;have HB:=J (HB.o.ext ah);have HX:=J (HX.o.trans ah);clear ah;have cT:=J (fun W v u a b=>SO W v p q a (by omega) (by omega) u 1 1 b FV.1 FV.2);have nl:=J (Pa p q);obtain⟨cb,oG⟩:∃cb,(ES (p*((1:Nat):Int)) (1*(q:Int)) == 0)=cb:=⟨_,rfl⟩;rw[oG]at nl;generalize ES (p*((1:Nat):Int)) (1*(q:Int))=cz at *;obtain⟨⟨ao,cn,ck,cj,ch⟩,⟨bV,bU,bT⟩,⟨b7,bZ,bX⟩,⟨cg,cd,b9⟩,⟨cr,cq,cp⟩,co⟩:=HB.o.cells;go_upto_region 25 with fail
   go_region_held3 (fun w'=>Ext w2 w'/\w'.cell? ⟨w.heap.size+1,0,none⟩=some (.bool b0)/\w'.cell? ⟨w.heap.size+1,1,none⟩=some (.slice A0 l0 c0)/\w'.cell? ⟨w.heap.size+1,2,none⟩=some (.slice D0 k0 e0))
   (first|(exact⟨(Ext.refl w2).drew,bV,bU,bT⟩)|(exact FH (by assumption) (by assumption)))
   (first
    |(go_at_call 220;have kM:=la;refine(cT.o _ _ _ ((iq.o.arr.ext HX.o).ext (qau (by assumption))) R3.o.arr).mono ?_;rintro e w4 ⟨rfl,bf⟩;have pZ:=bf.size)
    |(go_at_call 184;refine(Ec _ 1 (by decide) (by decide)).mono ?_;rintro e w3 ⟨v3,rfl,cE,ab⟩;have la:=ab.size;have R3:=J cE;obtain⟨f3,g3,G3,j3,y3,Y3,z3,rfl⟩:=cE.shape;clear cE))
   rename_i hS;have HB:=J (HB.o.ext hS.1);have HX:=J (HX.o.trans hS.1);cases cb
   ·have he:p≠(q:Int):=of_decide_eq_false nl.o;clear ao cn ck cj ch bV bU bT b7 bZ bX cg cd b9 cr cq cp co;obtain⟨⟨ao,cn,ck,cj,ch⟩,⟨bV,bU,bT⟩,⟨b7,bZ,bX⟩,⟨cg,cd,b9⟩,⟨cr,cq,cp⟩,co⟩:=HB.o.cells;go_wp2_with fail;obtain⟨ai,ac,hr2⟩:=Aj HB.o.r (.bool false) (.slice none 0 0) (.slice none 0 0);refine bodyPost_ret (v:= .tuple #[.agg #[.bool false,.slice none 0 0,.slice none 0 0],.int .i64 0]) (by simp[results,Tryz.results186,go_sem,ai,ac,hr2]) rfl ?_
    exact⟨_,0,_,_,rfl,Ag.zero _ _,HX.o.three (show w.heap.size<=w.heap.size+3 by omega) _ _ _,Ax.1,Ax.2.1,.inr (.inr ⟨rfl,by simp[opX,unX,he];intro h;omega,rfl,rfl⟩)⟩
   ·have he:p=(q:Int):=of_decide_eq_true nl.o;clear ao cn ck cj ch bV bU bT b7 bZ bX cg cd b9 cr cq cp co;obtain⟨⟨ao,cn,ck,cj,ch⟩,⟨bV,bU,bT⟩,⟨b7,bZ,bX⟩,⟨cg,cd,b9⟩,⟨cr,cq,cp⟩,co⟩:=HB.o.cells;go_wp2_with fail;clear ao cn ck cj ch bV bU bT b7 bZ bX cg cd b9 cr cq cp co;refine(Ec _ 0 (by decide) (by decide)).mono ?_
    rintro e w5 ⟨v5,rfl,dO,ah⟩;have HB:=J (HB.o.ext ah);have HX:=J (HX.o.trans ah);have R5:=J dO;obtain⟨f5,g5,G5,j5,y5,Y5,z5,rfl⟩:=dO.shape;clear dO;clear ah;obtain⟨⟨ao,cn,ck,cj,ch⟩,⟨bV,bU,bT⟩,⟨b7,bZ,bX⟩,⟨cg,cd,b9⟩,⟨cr,cq,cp⟩,co⟩:=HB.o.cells;go_wp2_with fail;obtain⟨ai,ac,hr2⟩:=Aj HB.o.r (.bool f5) (.slice G5 g5 j5) (.slice Y5 y5 z5);refine bodyPost_ret (v:= .tuple #[.agg #[.bool f5,.slice G5 g5 j5,.slice Y5 y5 z5],.int .i64 1]) (by simp[results,Tryz.results186,go_sem,ai,ac,hr2]) rfl ?_
    exact⟨_,1,_,_,rfl,R5.o.low0.ku (KU.three HB.o.r _ _ _),HX.o.three (show w.heap.size<=w.heap.size+3 by omega) _ _ _,Ax.1,Ax.2.2.1,.inl ⟨rfl,by simp[opX,unX,he];intro h;omega⟩⟩
 ·cases zb
  ·have hp:p≠0:=by rintro rfl;simp[sgZ]at fg
   obtain⟨⟨ao,cn,ck,cj,ch⟩,⟨bV,bU,bT⟩,⟨b7,bZ,bX⟩,⟨cg,cd,b9⟩,⟨cr,cq,cp⟩,co⟩:=HB.o.cells;go_wp2_with fail;obtain⟨ai,ac,hr2⟩:=Aj HB.o.r (.bool false) (.slice none 0 0) (.slice none 0 0);refine bodyPost_ret (v:= .tuple #[.agg #[.bool false,.slice none 0 0,.slice none 0 0],.int .i64 0]) (by simp[results,Tryz.results186,go_sem,ai,ac,hr2]) rfl ?_
   exact⟨_,0,_,_,rfl,Ag.zero _ _,HX.o.three (show w.heap.size<=w.heap.size+3 by omega) _ _ _,Ax.1,Ax.2.1,.inr (.inr ⟨rfl,by simp[opX,unX,hp],rfl,rfl⟩)⟩
  ·have hp:p=0:=by unfold sgZ at fg;split at fg<;>(try split at fg)<;>first|omega|(simp at fg)
   obtain⟨⟨ao,cn,ck,cj,ch⟩,⟨bV,bU,bT⟩,⟨b7,bZ,bX⟩,⟨cg,cd,b9⟩,⟨cr,cq,cp⟩,co⟩:=HB.o.cells;go_wp2_with fail;clear ao cn ck cj ch bV bU bT b7 bZ bX cg cd b9 cr cq cp co;refine(Ec _ 0 (by decide) (by decide)).mono ?_
   rintro e w2 ⟨v2,rfl,ay,ah⟩;have HB:=J (HB.o.ext ah);have HX:=J (HX.o.trans ah);have R2:=J ay;obtain⟨f2,g2,G2,j2,y2,Y2,z2,rfl⟩:=ay.shape;clear ay;clear ah;obtain⟨⟨ao,cn,ck,cj,ch⟩,⟨bV,bU,bT⟩,⟨b7,bZ,bX⟩,⟨cg,cd,b9⟩,⟨cr,cq,cp⟩,co⟩:=HB.o.cells;go_wp2_with fail;obtain⟨ai,ac,hr2⟩:=Aj HB.o.r (.bool f2) (.slice G2 g2 j2) (.slice Y2 y2 z2);refine bodyPost_ret (v:= .tuple #[.agg #[.bool f2,.slice G2 g2 j2,.slice Y2 y2 z2],.int .i64 1]) (by simp[results,Tryz.results186,go_sem,ai,ac,hr2]) rfl ?_
   exact⟨_,1,_,_,rfl,R2.o.low0.ku (KU.three HB.o.r _ _ _),HX.o.three (show w.heap.size<=w.heap.size+3 by omega) _ _ _,Ax.1,Ax.2.2.1,.inl ⟨rfl,by simp[opX,unX,hp]⟩⟩
 ·cases zb
  ·have hp:p≠0:=by rintro rfl;simp[sgZ]at fg
   obtain⟨⟨ao,cn,ck,cj,ch⟩,⟨bV,bU,bT⟩,⟨b7,bZ,bX⟩,⟨cg,cd,b9⟩,⟨cr,cq,cp⟩,co⟩:=HB.o.cells;go_wp2_with fail;obtain⟨ai,ac,hr2⟩:=Aj HB.o.r (.bool false) (.slice none 0 0) (.slice none 0 0);refine bodyPost_ret (v:= .tuple #[.agg #[.bool false,.slice none 0 0,.slice none 0 0],.int .i64 0]) (by simp[results,Tryz.results186,go_sem,ai,ac,hr2]) rfl ?_
   exact⟨_,0,_,_,rfl,Ag.zero _ _,HX.o.three (show w.heap.size<=w.heap.size+3 by omega) _ _ _,Ax.1,Ax.2.1,.inr (.inr ⟨rfl,by simp[opX,unX,hp],rfl,rfl⟩)⟩
  ·have hp:p=0:=by unfold sgZ at fg;split at fg<;>(try split at fg)<;>first|omega|(simp at fg)
   obtain⟨⟨ao,cn,ck,cj,ch⟩,⟨bV,bU,bT⟩,⟨b7,bZ,bX⟩,⟨cg,cd,b9⟩,⟨cr,cq,cp⟩,co⟩:=HB.o.cells;go_wp2_with fail;clear ao cn ck cj ch bV bU bT b7 bZ bX cg cd b9 cr cq cp co;refine(Ec _ 1 (by decide) (by decide)).mono ?_
   rintro e w2 ⟨v2,rfl,ay,ah⟩;have HB:=J (HB.o.ext ah);have HX:=J (HX.o.trans ah);have R2:=J ay;obtain⟨f2,g2,G2,j2,y2,Y2,z2,rfl⟩:=ay.shape;clear ay;clear ah;obtain⟨⟨ao,cn,ck,cj,ch⟩,⟨bV,bU,bT⟩,⟨b7,bZ,bX⟩,⟨cg,cd,b9⟩,⟨cr,cq,cp⟩,co⟩:=HB.o.cells;go_wp2_with fail;obtain⟨ai,ac,hr2⟩:=Aj HB.o.r (.bool f2) (.slice G2 g2 j2) (.slice Y2 y2 z2);refine bodyPost_ret (v:= .tuple #[.agg #[.bool f2,.slice G2 g2 j2,.slice Y2 y2 z2],.int .i64 1]) (by simp[results,Tryz.results186,go_sem,ai,ac,hr2]) rfl ?_
   exact⟨_,1,_,_,rfl,R2.o.low0.ku (KU.three HB.o.r _ _ _),HX.o.three (show w.heap.size<=w.heap.size+3 by omega) _ _ _,Ax.2.2.2,Ax.2.2.1,.inl ⟨rfl,by simp[opX,unX,hp]⟩⟩
 ·cases zb
  ·have hp:p≠0:=by rintro rfl;simp[sgZ]at fg
   obtain⟨⟨ao,cn,ck,cj,ch⟩,⟨bV,bU,bT⟩,⟨b7,bZ,bX⟩,⟨cg,cd,b9⟩,⟨cr,cq,cp⟩,co⟩:=HB.o.cells;go_wp2_with fail;obtain⟨ai,ac,hr2⟩:=Aj HB.o.r (.bool false) (.slice none 0 0) (.slice none 0 0);refine bodyPost_ret (v:= .tuple #[.agg #[.bool false,.slice none 0 0,.slice none 0 0],.int .i64 0]) (by simp[results,Tryz.results186,go_sem,ai,ac,hr2]) rfl ?_
   exact⟨_,0,_,_,rfl,Ag.zero _ _,HX.o.three (show w.heap.size<=w.heap.size+3 by omega) _ _ _,Ax.1,Ax.2.1,.inr (.inr ⟨rfl,by simp[opX,unX,hp],rfl,rfl⟩)⟩
  ·have hp:p=0:=by unfold sgZ at fg;split at fg<;>(try split at fg)<;>first|omega|(simp at fg)
   obtain⟨⟨ao,cn,ck,cj,ch⟩,⟨bV,bU,bT⟩,⟨b7,bZ,bX⟩,⟨cg,cd,b9⟩,⟨cr,cq,cp⟩,co⟩:=HB.o.cells;go_wp2_with fail;clear ao cn ck cj ch bV bU bT b7 bZ bX cg cd b9 cr cq cp co;refine(Ec _ 0 (by decide) (by decide)).mono ?_
   rintro e w2 ⟨v2,rfl,ay,ah⟩;have HB:=J (HB.o.ext ah);have HX:=J (HX.o.trans ah);have R2:=J ay;obtain⟨f2,g2,G2,j2,y2,Y2,z2,rfl⟩:=ay.shape;clear ay;clear ah;obtain⟨⟨ao,cn,ck,cj,ch⟩,⟨bV,bU,bT⟩,⟨b7,bZ,bX⟩,⟨cg,cd,b9⟩,⟨cr,cq,cp⟩,co⟩:=HB.o.cells;go_wp2_with fail;obtain⟨ai,ac,hr2⟩:=Aj HB.o.r (.bool f2) (.slice G2 g2 j2) (.slice Y2 y2 z2);refine bodyPost_ret (v:= .tuple #[.agg #[.bool f2,.slice G2 g2 j2,.slice Y2 y2 z2],.int .i64 1]) (by simp[results,Tryz.results186,go_sem,ai,ac,hr2]) rfl ?_
   exact⟨_,1,_,_,rfl,R2.o.low0.ku (KU.three HB.o.r _ _ _),HX.o.three (show w.heap.size<=w.heap.size+3 by omega) _ _ _,Ax.1,Ax.2.2.1,.inl ⟨rfl,by simp[opX,unX,hp]⟩⟩
structure Fl (w:World) (c b:Nat) (T:List X2):Prop where
 blk:Blk w c 137 #[.slice (some ⟨b,0,none⟩) T.length T.length]
 row:Hj w b T
theorem Fl.ext{w w':World}{c b:Nat}{T:List X2}(h:Fl w c b T)(hx:Ext w w'):Fl w' c b T:=⟨h.blk.ext hx,h.row.ext hx⟩
theorem BO.shape{w:World}{v:Value}{x:X2}(h:BO w v x):∃f A n c A' n' c',v= .agg #[.bool f,.slice A n c,.slice A' n' c',.int .i64 (x.st:Int)]:=by
 obtain⟨A,n,c,A',n',c',rfl,_⟩:=h;exact⟨_,A,n,c,A',n',c',rfl⟩
theorem BO.rat{w:World}{f:Bool}{A A':Option Addr}{n c n' c':Nat}{s:Int}{x:X2}(h:BO w (.agg #[.bool f,.slice A n c,.slice A' n' c',.int .i64 s]) x):Ag 0 w (.agg #[.bool f,.slice A n c,.slice A' n' c']) x.p x.q:=by
 obtain⟨A,n,c,A',n',c',he,h⟩:=h;injection he with he
 injection he with he
 injection he with h1 he
 injection he with h2 he
 injection he with h3 he
 rw[h1,h2,h3];exact h
theorem KU.four{g:Nat}{w:World}{cs:Array Value}(hb:Blk w g 136 cs)(a b c d:Value):KU w ((((w.setCell ⟨g,0,none⟩ a).setCell ⟨g,1,none⟩ b).setCell ⟨g,2,none⟩ c).setCell ⟨g,3,none⟩ d):=by
 have ht:136≠183:=by decide
 exact(((KU.set hb ht (a:=⟨g,0,none⟩) rfl a).trans (KU.set (hb.set_ 0 a) ht (a:=⟨g,1,none⟩) rfl b)).trans (KU.set ((hb.set_ 0 a).set_ 1 b) ht (a:=⟨g,2,none⟩) rfl c)).trans (KU.set (((hb.set_ 0 a).set_ 1 b).set_ 2 c) ht (a:=⟨g,3,none⟩) rfl d)
theorem UF(w:World)(c b:Nat)(T:List X2)(h:Fl w c b T)(j:Nat)(hj:j<T.length)(hT:T.length<=1000000):
  Calls Tryz.prog 140 #[.int .i64 (j:Int),.pointer (some ⟨c,0,none⟩)] w fun e w'=>∃v',e= .returned v'/\BO w' v' (T.getD j X2.O)/\Ext w w':=by
 have HO:=J h;obtain⟨l,hl⟩:∃l,l=T.length:=⟨_,rfl⟩;have HL:=J hl;have me:T[j]? =some (T.getD j X2.O):=by rw[qaa,qad hj,Option.getD_some]
 rw[<-hl]at hT hj;generalize T.getD j X2.O=y at *;have HTI:=J me;clear me;have uE:(0:Int)<=(j:Int):=by omega
 have qi:(j:Int)<(l:Int):=by omega
 clear h hl;go_enter Tryz.func140,Tryz.ntmps140;go_upto_region 1 with fail;have hb:=Blk.new w 136 #[.bool false,.slice none 0 0,.slice none 0 0,.int .i64 0];have hx:=(Ext.refl w).alloc (.cells #[.bool false,.slice none 0 0,.slice none 0 0,.int .i64 0] 136);generalize w.alloc (.cells #[.bool false,.slice none 0 0,.slice none 0 0,.int .i64 0] 136)=w1 at *;have HB:=J hb;have HX:=J hx;have HO:=J (HO.o.ext hx);clear hb hx;have q0:=HB.o.fourX;obtain⟨cs,ax,cA,fK⟩:=HO.o.row;obtain⟨⟨A,n,k,A',n',k',p0,p1,p2,hr⟩,p3⟩:=fK j _ HTI.o;have HR:=J hr;have hc0:=HO.o.blk.cell 0;have hc1:w1.cell? ⟨c,0,none⟩=some (.slice (some ⟨b,0,none⟩) l l):=by rw[HL.o];exact hc0
 clear fK ax cA hr hc0;obtain⟨yf,p5⟩:∃yf,decide (y.p<0)=yf:=⟨_,rfl⟩;have HY:=J p5;rw[p5]at p0 HR;clear p5;go_wp2_with fail;obtain⟨r0,r1,r2,r3⟩:=AJ HB.o (.bool yf) (.slice A n k) (.slice A' n' k') (.int .i64 (y.st:Int));refine bodyPost_ret (v:= .agg #[.bool yf,.slice A n k,.slice A' n' k',.int .i64 (y.st:Int)]) (by simp[results,Tryz.results140,go_sem,r0,r1,r2,r3]) rfl ?_
 have bf:=(((HX.o.setCell (p:=⟨w.heap.size,0,none⟩) (qab _) (.bool yf)).setCell (p:=⟨w.heap.size,1,none⟩) (qab _) (.slice A n k)).setCell (p:=⟨w.heap.size,2,none⟩) (qab _) (.slice A' n' k')).setCell (p:=⟨w.heap.size,3,none⟩) (qab _) (.int .i64 (y.st:Int));refine⟨_,rfl,⟨A,n,k,A',n',k',by rw[HY.o],?_⟩,bf⟩;rw[HY.o];exact HR.o.ku (KU.four HB.o _ _ _ _)
end Big
end Go.Proofs.YtkoaogkknnelaaaGreatDoor
