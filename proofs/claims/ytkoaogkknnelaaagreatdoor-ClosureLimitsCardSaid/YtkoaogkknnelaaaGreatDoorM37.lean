import Derived.Shelf.SlMaps.Clone
import Derived.Test.YtkoaogkknnelaaaGreatDoorM36
set_option linter.unusedVariables false
set_option linter.unusedSimpArgs false
set_option maxHeartbeats 4000000
set_option maxRecDepth 100000
namespace Go.Proofs.YtkoaogkknnelaaaGreatDoor
namespace Big
open Lib renaming hid → J
def Ed(ns:List Nd)(env:Env)(ms:List Nd)(f:Int->Option Int):Prop:=
 ∀k z,f k=some z->∃(i j:Nat) (e:Ex),k=(i:Int)/\z=(j:Int)/\AM ns env i e/\Rep ms j e
section
variable {ns ms ms':List Nd} {env:Env} {f:Int->Option Int}
theorem Ed.none:Ed ns env ms (fun _=>none):=fun k z h=>by cases h
theorem Ed.pre(h:Ed ns env ms f)(hp:ms <+: ms'):Ed ns env ms' f:=fun k z hk=>by
 obtain⟨i,j,e,h1,h2,h3,h4⟩:=h k z hk;exact⟨i,j,e,h1,h2,h3,h4.pre hp⟩
theorem Ed.put(h:Ed ns env ms f){i j:Nat}{e:Ex}(hc:AM ns env i e)(hr:Rep ms j e):Ed ns env ms (fun k=>if k=(i:Int) then some (j:Int) else f k):=by
 intro k z hk;by_cases hki:k=(i:Int)
 ·simp only[if_pos hki]at hk;injection hk with hk
  exact⟨i,j,e,hki,hk.symm,hc,hr⟩
 ·simp only[if_neg hki]at hk;exact h k z hk
theorem Ed.found(h:Ed ns env ms f)(hn:ms.Nodup){i:Nat}{e:Ex}(hc:AM ns env i e){z:Int}(hf:f (i:Int)=some z):z=((Ai ms e).1:Int)/\(Ai ms e).2=ms:=by
 obtain⟨i',j,e',h1,h2,h3,h4⟩:=h _ _ hf;obtain rfl:i=i':=by omega
 obtain rfl:=hc.uniq h3;rw[J6 hn h4];exact⟨h2,rfl⟩
theorem Ed.keys(h:Ed ns env ms f){k:Int}(hk:(f k).isSome=true):0<=k/\k<(ns.length:Int):=by
 obtain⟨z,hz⟩:=Option.isSome_iff_exists.1 hk;obtain⟨i,j,e,rfl,_,h3,_⟩:=h k z hz;have:=h3.lt;omega
end
def ED(ns:List Nd)(env:Env)(id z c:Int)(ms:List Nd):Prop:=
 (¬(0<=id/\id<(ns.length:Int))/\z=0/\c=1/\ms=ns)\/
 (0<=id/\id<(ns.length:Int)/\¬B8 ns env id.toNat/\z=0/\c=8/\ms=ns)\/
 (0<=id/\id<(ns.length:Int)/\B8 ns env id.toNat/\∃e,AM ns env id.toNat e/\
  (((Ai ns e).2.length<=4096/\z=((Ai ns e).1:Int)/\c=0/\ms=(Ai ns e).2)\/(4096<(Ai ns e).2.length/\z=0/\c=7/\ms=ns)))
theorem ED.uniq{ns:List Nd}{env:Env}{id z c z' c':Int}{ms ms':List Nd}(h:ED ns env id z c ms)(h':ED ns env id z' c' ms'):z=z'/\c=c'/\ms=ms':=by
 rcases h with ⟨h1,rfl,rfl,rfl⟩|⟨h1,h2,h3,rfl,rfl,rfl⟩|⟨h1,h2,h3,e,h4,h5⟩
 ·rcases h' with ⟨k1,rfl,rfl,rfl⟩|⟨k1,k2,k3,_⟩|⟨k1,k2,k3,_⟩
  ·exact⟨rfl,rfl,rfl⟩
  ·exact absurd ⟨k1,k2⟩ h1
  ·exact absurd ⟨k1,k2⟩ h1
 ·rcases h' with ⟨k1,_⟩|⟨k1,k2,k3,rfl,rfl,rfl⟩|⟨k1,k2,k3,_⟩
  ·exact absurd ⟨h1,h2⟩ k1
  ·exact⟨rfl,rfl,rfl⟩
  ·exact absurd k3 h3
 ·rcases h' with ⟨k1,_⟩|⟨k1,k2,k3,_⟩|⟨k1,k2,k3,e',k4,k5⟩
  ·exact absurd ⟨h1,h2⟩ k1
  ·exact absurd h3 k3
  ·obtain rfl:=h4.uniq k4;rcases h5 with ⟨a1,rfl,rfl,rfl⟩|⟨a1,rfl,rfl,rfl⟩
   ·rcases k5 with ⟨b1,rfl,rfl,rfl⟩|⟨b1,_⟩
    ·exact⟨rfl,rfl,rfl⟩
    ·omega
   ·rcases k5 with ⟨b1,_⟩|⟨b1,rfl,rfl,rfl⟩
    ·omega
    ·exact⟨rfl,rfl,rfl⟩
theorem AM.nonames{ns:List Nd}{env:Env}{ms:List Nd}{i j:Nat}{e:Ex}(hc:AM ns env i e)(hr:Rep ms j e)(t:Tx):¬AB ms j t:=by
 intro h;rw[DL hc.good hr,hc.free]at h;cases h
theorem AM.again{ns:List Nd}{env env':Env}{ms:List Nd}{i j:Nat}{e:Ex}(hn:ms.Nodup)(hc:AM ns env i e)(hr:Rep ms j e):AM ms env' j e/\Ai ms e=(j,ms)/\B8 ms env' j:=by
 refine⟨AM.rep hc.good hr hc.free,J6 hn hr,?_⟩;have key:∀t,¬B2 ms env' j t:=by
  intro t ht;unfold B2 at ht
  induction ht with
  |here h=>exact hc.nonames hr _ h
  |step _ _ _ ih=>exact ih
 exact fun t ht=>absurd ht (key t)
theorem ED.again{ns:List Nd}{env env':Env}{ms:List Nd}{i j:Nat}{e:Ex}(hn:ms.Nodup)(hf:ms.length<=4096)(hc:AM ns env i e)(hr:Rep ms j e):ED ms env' (j:Int) (j:Int) 0 ms:=by
 obtain⟨h1,h2,h3⟩:=AM.again (env':=env') hn hc hr;have hl:=hr.lt;refine .inr (.inr ⟨by omega,by omega,by rw[Int.toNat_natCast];exact h3,e,by rw[Int.toNat_natCast];exact h1,.inl ?_⟩);rw[h2];exact⟨hf,rfl,rfl,rfl⟩
theorem Cl.clo{ns ms:List Nd}{env:Env}(hs:Aw ns)(tK:Aw ms)(he:AO ns env)(h:Cl ns env ms)(hb:2*ns.length<=4096){id z c:Int}{ms':List Nd}(hr:ED ms env id z c ms'):
  Cl ns env ms'/\Aw ms'/\ms <+: ms'/\c≠7:=by
 rcases hr with ⟨h1,rfl,rfl,rfl⟩|⟨h1,h2,h3,rfl,rfl,rfl⟩|⟨h1,h2,h3,e,h4,h5⟩
 ·exact⟨h,tK,List.prefix_refl _,by decide⟩
 ·exact⟨h,tK,List.prefix_refl _,by decide⟩
 ·have sf:∃i,AM ns env i e:=by
   rcases Nat.lt_or_ge id.toNat ns.length with hi|hi
   ·refine⟨id.toNat,?_⟩;have hbd:B8 ns env id.toNat:=fun t ht=>h3 t ((B2.pre hs h.1 he.ok hi t).2 ht)
    obtain⟨e',Wp⟩:=he.closed hs id.toNat hi hbd;obtain rfl:=h4.uniq (Wp.pre h.1);exact Wp
   ·obtain⟨i,e',h6,h7⟩:=h.2 id.toNat hi (by omega);have h8:=AM.rep (env:=env) h6.good h7 h6.free;obtain rfl:=h4.uniq h8;exact⟨i,h6⟩
  obtain⟨i,hi⟩:=sf;have ha:=Cl.add hi h;have VR:=tK.add e h4.good;have ao:=ha.len VR.1;rcases h5 with ⟨a1,rfl,rfl,rfl⟩|⟨a1,_⟩
  ·exact⟨ha,VR,EB e ms,by decide⟩
  ·omega
open Go.RowKit
theorem N7(w:World)(b:Nat)(ns:List Nd)(h:DA w b ns):
  Calls Tryz.prog 158 #[.map (some b)] w fun e w'=>∃bn,e= .returned (.map (some bn))/\DA w' bn ns/\w.heap.size<=bn/\Ext w w':=by
 obtain⟨es,clock,hb,he⟩:=h;refine(AnyW.maps_Clone Tryz.cloneMapIt b es clock w hb).mono ?_
 rintro e w' ⟨rfl,rfl⟩;exact⟨_,rfl,⟨es,clock,(MapKept.heap_alloc w _).1,he⟩,Nat.le_refl _,(Ext.refl w).alloc _⟩
theorem Qo(B g b:Nat)(w:World)(ns:List Nd)(nv:Value)(h:GrP B g b w ns nv):
  Calls Tryz.prog 102 #[.pointer (some ⟨g,0,none⟩)] w fun e w'=>∃g2 b2 nv2,e= .returned (.pointer (some ⟨g2,0,none⟩))/\GrP w.heap.size g2 b2 w' ns nv2/\Ext w w':=by
 have Z8:=J (fun W (hx:Ext w W)=>Of B W nv ns (h.row.ext hx) (by have:=h.few;omega));have Z5:=J (fun W (hx:Ext w W)=>N7 W b ns (h.map.kept (hx.block b h.map.lt)));have cD:=J (And.intro h.ok (And.intro h.few (Nat.lt_of_lt_of_le h.low (Nat.le_of_lt (Nat.lt_of_le_of_lt h.lo h.lt)))));obtain⟨k0,k1,f0,f1,fA⟩:=h.blk.twoG;have hkk:=And.intro k0 k1;have HKK:=J hkk;obtain⟨A,c,rfl⟩:=h.row.shape;clear h hkk;go_enter Tryz.func102,Tryz.ntmps102;go_upto_region 1 with fail;clear k0 k1 f0 f1;refine wp_region_held_drew (S:=fun w'=>Ext w w'/\w'.cell? ⟨g,0,none⟩=some (.slice A ns.length c)/\w'.cell? ⟨g,1,none⟩=some (.map (some b))) (by kernel_rfl) (by exact Og HKK.o) (fun hHeld=> ?_);refine' wpAnyH_take (i:=0) (v:=_) rfl (by kernel_rfl) (by kernel_rfl) (by kernel_rfl) (fun _ _ _ h=>h) (Or.inl ⟨by rfl,?_⟩) hHeld ?_
 rotate_left
 ·(intro w' aa;(try dsimp only at aa);go_simp;(try with_reducible rfl))
 try simp only[pu]
 refine' wpAnyH_take (i:=1) (v:=_) rfl (by kernel_rfl) (by kernel_rfl) (by kernel_rfl) (fun _ _ _ h=>h) (Or.inl ⟨by rfl,?_⟩) hHeld ?_
 rotate_left
 ·(intro w' aa;(try dsimp only at aa);go_simp;(try with_reducible rfl))
 try simp only[pu]
 refine' wpAnyH_take (i:=2) (v:=_) rfl (by kernel_rfl) (by kernel_rfl) (by kernel_rfl) (fun _ _ _ h=>h) (Or.inl ⟨by rfl,?_⟩) hHeld ?_
 rotate_left
 ·(intro w' aa;(try dsimp only at aa);go_simp;(try with_reducible rfl))
 try simp only[pu]
 refine' wpAnyH_take (i:=3) (v:=_) rfl (by kernel_rfl) (by kernel_rfl) (by kernel_rfl) (fun _ _ _ h=>h) (Or.inl ⟨by rfl,?_⟩) hHeld ?_
 rotate_left
 ·(intro w' aa;(try dsimp only at aa);go_simp;(try with_reducible rfl))
 try simp only[pu]
 refine' wpAnyH_take (i:=5) (v:=_) rfl (by kernel_rfl) (by kernel_rfl) (by kernel_rfl) (fun _ _ _ h=>h) (Or.inl ⟨by rfl,?_⟩) hHeld ?_
 rotate_left
 ·(intro w' aa;(try dsimp only at aa);go_simp;(try with_reducible rfl))
 try simp only[pu]
 refine' wpAnyH_take (i:=6) (v:=_) rfl (by kernel_rfl) (by kernel_rfl) (by kernel_rfl) (fun _ _ _ h=>h) (Or.inl ⟨by rfl,?_⟩) hHeld ?_
 rotate_left
 ·(intro w' aa;(try dsimp only at aa);go_simp;(try with_reducible rfl))
 try simp only[pu]
 refine' wpAnyH_take (i:=7) (v:=_) rfl (by kernel_rfl) (by kernel_rfl) (by kernel_rfl) (fun _ _ _ h=>h) (Or.inl ⟨by rfl,?_⟩) hHeld ?_
 rotate_left
 ·(intro w' aa;(try dsimp only at aa);go_simp;(try with_reducible rfl))
 try simp only[pu]
 refine' wpAnyH_take (i:=8) (v:=_) rfl (by kernel_rfl) (by kernel_rfl) (by kernel_rfl) (fun _ _ _ h=>h) (Or.inl ⟨by rfl,?_⟩) hHeld ?_
 rotate_left
 ·(intro w' aa;(try dsimp only at aa);go_simp;(try with_reducible rfl))
 try simp only[pu]
 refine wpAnyH_ready (rs:=[4]) (by kernel_rfl) (by simp) ?_
 refine AllReadyH.cons (i:=4) rfl (fun K hK=> ?_) AllReadyH.nil;go_simp
 (go_at_call 157;refine(Z8.o _ hHeld.1).mono ?_;rintro e w5 ⟨v5,rfl,cY,hx5⟩;have gT:=J cY;have bg:=J hx5;have bP:=J hHeld.1.size;(try (have ng:=J (ng.o.kept (hx5.block _ ng.o.lt))));obtain⟨A5,c5,rfl⟩:=cY.shape;clear cY hx5)
 try go_wp2_with fail
 refine hK.out _ _ ?_ (fun hHeld=> ?_)
 ·exact RI hHeld bg.o
 clear hK K;try simp only[pu]
 refine wpAnyH_ready (rs:=[9]) (by kernel_rfl) (by simp) ?_
 refine AllReadyH.cons (i:=9) rfl (fun K hK=> ?_) AllReadyH.nil;go_simp
 (go_at_call 158;refine(Z5.o _ hHeld.1).mono ?_;rintro e w6 ⟨bn,rfl,Wd,kB,be⟩;have ng:=J Wd;have aO:=J be;have bv:=J (Nat.le_trans hHeld.1.size kB);(try (have gT:=J (gT.o.ext be)));clear Wd kB be)
 try go_wp2_with fail
 refine hK.out _ _ ?_ (fun hHeld=> ?_)
 ·exact RI hHeld aO.o
 clear hK K;try simp only[pu]
 refine' wpAnyH_take (i:=10) (v:=_) rfl (by kernel_rfl) (by kernel_rfl) (by kernel_rfl) (fun _ _ _ h=>h) (Or.inl ⟨by rfl,?_⟩) hHeld ?_
 rotate_left
 ·(intro w' aa;(try dsimp only at aa);go_simp;(try with_reducible rfl))
 try simp only[pu]
 have i5:=J (fun (W:World) (hr:Ak w.heap.size W (.slice A5 ns.length c5) ns) (hm:DA W bn ns) (hx:Ext w W)=>(show GrP w.heap.size W.heap.size bn (W.alloc (.cells #[.slice A5 ns.length c5,.map (some bn)] 80)) ns (.slice A5 ns.length c5) from ⟨Blk.new W _ _,hr.ext ((Ext.refl W).alloc _),hm.kept (Below.heap_alloc _ _ _ hm.lt),hx.size,bv.o,cD.o.1,cD.o.2.1,cD.o.2.2⟩));have HFB:=J (i5.o _ (gT.o.mono bP.o) ng.o hHeld.1);refine wpAnyH_ready (rs:=[11]) (by kernel_rfl) (by simp) ?_
 refine AllReadyH.cons (i:=11) rfl (fun K hK=> ?_) AllReadyH.nil;go_simp;try go_wp2_with fail
 refine hK.out _ _ ?_ (fun hHeld=> ?_)
 ·exact RI hHeld ((Ext.refl _).alloc _)
 clear hK K;try simp only[pu]
 refine wpAnyH_ready (rs:=[12]) (by kernel_rfl) (by simp) ?_
 refine AllReadyH.cons (i:=12) rfl (fun K hK=> ?_) AllReadyH.nil;go_simp;try go_wp2_with fail
 refine hK.out _ _ ?_ (fun hHeld=> ?_)
 ·exact hHeld
 clear hK K;try simp only[pu]
 refine wpAnyH_done (by kernel_rfl) ?_ _
 go_wp2_with fail;go_ret;refine⟨_,bn,_,?_,HFB.o,hHeld.1⟩;rfl
open Go.RowKit Go.Maps Go.Sort
structure KX (X:Nat->Prop) (nv nv':Value) (w w':World):Prop where
 os:w'.os=w.os
 tape:w'.tape=w.tape
 output:w'.output=w.output
 size:w.heap.size<=w'.heap.size
 block:∀k,k<w.heap.size->¬X k->nv.ownBlock≠some k->w'.heap[k]? =w.heap[k]?
 move:∀j,nv'.ownBlock=some j->nv.ownBlock=some j\/w.heap.size<=j
section
variable {X:Nat->Prop} {nv nv' n1 n2 n3:Value} {w w' w1 w2 w3:World}
theorem KX.of_ext(h:Ext w w'):KX X nv nv w w':=⟨h.os,h.tape,h.output,h.size,fun k hk _ _=>h.block k hk,fun _ hj=> .inl hj⟩
theorem KX.of_KG{g b:Nat}(h:KG g b nv nv' w w')(hg:X g)(hb:X b):KX X nv nv' w w':=
 ⟨h.os,h.tape,h.output,h.size,fun k hk hx hn=>h.block k hk (fun e=>hx (e ▸ hg)) (fun e=>hx (e ▸ hb)) hn,h.move⟩
theorem KX.trans(h:KX X n1 n2 w1 w2)(k:KX X n2 n3 w2 w3):KX X n1 n3 w1 w3:=
 ⟨k.os.trans h.os,k.tape.trans h.tape,k.output.trans h.output,Nat.le_trans h.size k.size,fun i h1 h2 h4=>
  (k.block i (Nat.lt_of_lt_of_le h1 h.size) h2 (fun e=>by
   rcases h.move i e with h5|h5
   ·exact h4 h5
   ·omega)).trans (h.block i h1 h2 h4),fun j hj=>by
  rcases k.move j hj with h4|h4
  ·exact h.move j h4
  ·exact .inr (Nat.le_trans h.size h4)⟩
theorem KX.grown(h:KX X n1 n2 w1 w2){d:Nat}(hg:w2.grownBy w3 (some d))(hd:X d):KX X n1 n2 w1 w3:=
 ⟨hg.os.trans h.os,hg.tape.trans h.tape,hg.output.trans h.output,Nat.le_trans h.size hg.size,fun i h1 h2 h4=>
  (hg.block i (Nat.lt_of_lt_of_le h1 h.size) (fun e=>h2 (by injection e with e;subst e;exact hd))).trans (h.block i h1 h2 h4),h.move⟩
theorem KX.setX(h:KX X n1 n2 w1 w2){d j:Nat}(hd:X d)(u:Value):KX X n1 n2 w1 (w2.setCell ⟨d,j,none⟩ u):=
 ⟨h.os,h.tape,h.output,by simpa using h.size,fun i h1 h2 h4=>(Below.heap_setCell w2 ⟨d,j,none⟩ u i (fun e=>h2 (by rw[e];exact hd))).trans (h.block i h1 h2 h4),h.move⟩
theorem KX.setN(h:KX X n1 n2 w1 w2){d j:Nat}(hd:w1.heap.size<=d)(u:Value):KX X n1 n2 w1 (w2.setCell ⟨d,j,none⟩ u):=
 ⟨h.os,h.tape,h.output,by simpa using h.size,fun i h1 h2 h4=>(Below.heap_setCell w2 ⟨d,j,none⟩ u i (fun e=>by have:i=d:=e;omega)).trans (h.block i h1 h2 h4),h.move⟩
theorem KX.blk(h:KX X n1 n2 w w'){j:Nat}{t:TypeId}{cs:Array Value}(hb:Blk w j t cs)(h1:¬X j)(h3:n1.ownBlock≠some j):Blk w' j t cs:=(h.block j hb.lt h1 h3).trans hb
theorem KX.below(h:KX X n1 n2 w w'){B:Nat}(hB:B<=w.heap.size)(hX:∀k,X k->B<=k)(hn:∀k,n1.ownBlock=some k->B<=k):Below B w w':=
 ⟨h.os,h.tape,h.output,h.size,fun k hk=>h.block k (by omega) (fun hx=>by have:=hX k hx;omega) (fun e=>by have:=hn k e;omega)⟩
end
def Gx(f:Int->Option Int):Lit->Option Lit
 | .int .i64 k=>(f k).map (Lit.int .i64)
 |_=>none
def Fv(w:World)(b n:Nat)(f:Int->Option Int):Prop:=AS 3 3 w b n (Gx f)/\∀k,(f k).isSome=true->0<=k/\k<(n:Int)
section
variable {w w':World} {b n:Nat} {f:Int->Option Int}
theorem N4{α:Type}{l m:List α}(hn:l.Nodup)(h:∀x∈l,x∈m):l.length<=m.length:=by
 classical
 exact En hn h
theorem AS.tight{K E:TypeId}{m:Nat}{F:Lit->Option Lit}(law:Keyed Tryz.prog K)(h:AS K E w b m F){U:List Lit}(hU:∀k,(F k).isSome=true->k∈U):AS K E w b U.length F:=by
 obtain⟨D,h,h2,h3⟩:=h;obtain⟨Zw,hD,pC,hkey⟩:=h.entries law;obtain⟨es,clock,hb,Ft,hs,pV⟩:=h;refine⟨D,⟨es,clock,hb,Ft,?_,pV⟩,h2,h3⟩;have ao:es.size=Zw.length:=by
  rw[hD]at pV;injection pV with pV
  rw[pV,length_sorted,List.length_map,Array.length_toList]
 rw[ao,<-List.length_map (f:=Prod.fst)];refine N4 (List.pairwise_map.2 pC) (fun x hx=> ?_);obtain⟨p,hp,rfl⟩:=List.mem_map.1 hx;refine hU _ ?_
 rw[<-h3,hD];exact List.any_eq_true.2 ⟨p,hp,WideAt.sameKey_self (hkey p hp)⟩
theorem Fv.made(w:World)(n:Nat):Fv (w.alloc (.map #[] 0)) w.heap.size n (fun _=>none):=
 ⟨((AS.made _ _ w).mono (Nat.zero_le n)).congr (fun k=>by unfold Gx;split<;>rfl),fun k h=>by cases h⟩
theorem Fv.lt(h:Fv w b n f):b<w.heap.size:=h.1.lt
theorem Fv.at(h:Fv w b n f)(hk:w'.heap[b]? =w.heap[b]?):Fv w' b n f:=⟨h.1.at hk,h.2⟩
theorem Fv.ext(h:Fv w b n f)(hx:Ext w w'):Fv w' b n f:=⟨h.1.ext hx,h.2⟩
theorem LZ{k:Int}(h0: -1000000<=k)(h1:k<=1000000):(Lit.int .i64 k).wf=true:=by
 have e1:IntKind.i64.min= -9223372036854775808:=by decide
 have e2:IntKind.i64.max=9223372036854775807:=by decide
 simp only[Lit.wf,e1,e2,Bool.and_eq_true,decide_eq_true_eq];omega
theorem IA{k:Int}(h0: -1000000<=k)(h1:k<=1000000):keyOf Tryz.prog 3 (.int .i64 k)=some (.int .i64 k):=by
 have hk:=Tryz.underlying3;have:=LZ h0 h1;simp[keyOf,hk,mapKey]
 simpa [Lit.wf] using this
theorem Fv.put(h:Fv w b n f)(hn:n<=100000){k:Nat}(hk:k<n){z:Nat}(hz:z<=1000000):
  ∃w',(Instr.mapUpdate 157 (.map (some b)) (.int .i64 (k:Int)) (.int .i64 (z:Int))).run Tryz.prog w= .ok () w'/\Fv w' b n (fun x=>if x=(k:Int) then some (z:Int) else f x)/\w.grownBy w' (some b):=by
 obtain⟨w',hr,ho,hg⟩:=AS.put (int_keyed Tryz.underlying3) Tryz.underlying157 h.1 (by unfold maxLen;omega) (IA (k:=(k:Int)) (by omega) (by omega)) (plainElem_int Tryz.underlying3 (LZ (k:=(z:Int)) (by omega) (by omega)));have qD:∀x,(if x=(k:Int) then some (z:Int) else f x).isSome=true->0<=x/\x<(n:Int):=by
  intro x hx;by_cases e:x=(k:Int)
  ·omega
  ·rw[if_neg e]at hx;exact h.2 x hx
 refine⟨w',hr,⟨?_,qD⟩,hg⟩;have bN:=AS.congr (f':=Gx (fun x=>if x=(k:Int) then some (z:Int) else f x)) ho (fun key=>by
  by_cases e:key=Lit.int .i64 (k:Int)
  ·subst e;rw[if_pos rfl];simp[Gx]
  ·rw[if_neg e];unfold Gx;split
   ·rename_i x;show Option.map (Lit.int .i64) (f x)=Option.map (Lit.int .i64) (if x=(k:Int) then some (z:Int) else f x);rw[if_neg (fun h:x=(k:Int)=>e (by rw[h]))]
   ·rfl)
 have dr:=AS.tight (int_keyed Tryz.underlying3) bN (U:=(List.range n).map fun (i:Nat)=>Lit.int .i64 (i:Int)) (fun key hkey=>by
  unfold Gx at hkey;split at hkey
  ·rename_i x;rw[Option.isSome_map]at hkey;have:=qD x hkey;exact List.mem_map.2 ⟨x.toNat,List.mem_range.2 (by omega),by rw[Int.toNat_of_nonneg this.1]⟩
  ·cases hkey)
 simp only[List.length_map,List.length_range]at dr;exact dr
theorem Fv.look(h:Fv w b n f){k:Nat}(hk:k<=1000000):
  (Instr.lookup 157 (.map (some b)) (.int .i64 (k:Int)) true).run Tryz.prog w= .ok (.tuple #[.int .i64 ((f k).getD 0),.bool (f k).isSome]) w/\(Instr.lookup 157 (.map (some b)) (.int .i64 (k:Int)) false).run Tryz.prog w= .ok (.int .i64 ((f k).getD 0)) w:=by
 obtain⟨c,h1,h2,h3⟩:=AS.look_int (int_keyed Tryz.underlying3) Tryz.underlying157 h.1 (IA (k:=(k:Int)) (by omega) (by omega));have e1:(Gx f (.int .i64 (k:Int))).isSome=(f k).isSome:=by simp[Gx]
 have e2:c=(f k).getD 0:=by
  cases hf:f k with
  |none=>simpa [Gx,hf] using h3.symm
  |some d=>simpa [Gx,hf] using h3.symm
 rw[e1]at h1;rw[<-e2];exact⟨h1,h2⟩
end
theorem AG.at{B:Nat}{w w':World}{v:Value}{env:Env}(h:AG B w v env)(hk:∀k,v.ownBlock=some k->w'.heap[k]? =w.heap[k]?):AG B w' v env:=AU h hk
theorem F6{B m n:Nat}{w:World}{t:TypeId}{v:Value}{xs:List Value}(h:w.ownsRow B t m v n xs){k:Nat}(hk:v.ownBlock=some k):∃cur,w.heap[k]? =some (.cells cur t (0,0)):=by
 rcases h.2 with ⟨rfl,_⟩|⟨q,cap,cur,rfl,_,hh,_⟩
 ·cases hk
 ·simp only[Value.ownBlock,Option.some.injEq]at hk;subst hk;exact⟨cur,hh⟩
theorem BG{B m n:Nat}{w:World}{t t':TypeId}{v:Value}{xs:List Value}(h:w.ownsRow B t m v n xs){k:Nat}{cs:Array Value}(hb:Blk w k t' cs)(ht:t≠t'):v.ownBlock≠some k:=by
 intro e;obtain⟨cur,hc⟩:=F6 h e;unfold Blk at hb;rw[hb]at hc;injection hc with hc
 injection hc with _ hc _
 exact ht hc.symm
theorem C8{B m n:Nat}{w:World}{t:TypeId}{v:Value}{xs:List Value}(h:w.ownsRow B t m v n xs){k:Nat}{es:Array MapEntry}{cl:Nat}(hb:w.heap[k]? =some (.map es cl)):v.ownBlock≠some k:=by
 intro e;obtain⟨cur,hc⟩:=F6 h e;rw[hb]at hc;cases hc
theorem GF{B B' m m' n n':Nat}{w:World}{t t':TypeId}{v v':Value}{xs Xs:List Value}(h:w.ownsRow B t m v n xs)(h':w.ownsRow B' t' m' v' n' Xs)(ht:t≠t'){k:Nat}(hk:v.ownBlock=some k):v'.ownBlock≠some k:=by
 intro e;obtain⟨cur,hc⟩:=F6 h hk;obtain⟨pX,hc'⟩:=F6 h' e;rw[hc]at hc';injection hc' with hc'
 injection hc' with _ hc' _
 exact ht hc'
theorem AS.isMap{K E:TypeId}{w:World}{b m:Nat}{f:Lit->Option Lit}(h:AS K E w b m f):∃es cl,w.heap[b]? =some (.map es cl):=by
 obtain⟨D,⟨es,clock,hb,_⟩,_⟩:=h;exact⟨es,clock,hb⟩
theorem CD{w:World}{k b:Nat}{t:TypeId}{cs:Array Value}(h:Blk w k t cs){es:Array MapEntry}{cl:Nat}(hb:w.heap[b]? =some (.map es cl)):k≠b:=by
 rintro rfl;unfold Blk at h;rw[hb]at h;cases h
theorem Fr{w:World}{k b:Nat}{t t':TypeId}{cs ZB:Array Value}(h:Blk w k t cs)(h':Blk w b t' ZB)(ht:t≠t'):k≠b:=by
 rintro rfl;unfold Blk at h h';rw[h]at h';injection h' with h'
 injection h' with _ h' _
 exact ht h'
def XR(g dm wb:Nat)(k:Nat):Prop:=k=g\/k=dm\/k=wb
structure WkR (ns:List Nd) (env:Env) (B g dm wb:Nat) (ev:Value) (w:World) (ms:List Nd) (rv:Value) (f:Int->Option Int):Prop where
 gr:GrR B g w ms rv
 pre:ns <+: ms
 blk:Blk w wb 164 #[.pointer (some ⟨g,0,none⟩),ev,.map (some dm),.int .i64 0]
 row:AG 0 w ev env
 map:Fv w dm ns.length f
 done:Ed ns env ms f
section
variable {ns:List Nd} {env:Env} {B g dm wb:Nat} {ev:Value} {w w':World} {ms ms':List Nd} {rv rv':Value} {f f':Int->Option Int}
theorem WkR.keep(h:WkR ns env B g dm wb ev w ms rv f)(hx:Ext w w'):WkR ns env B g dm wb ev w' ms rv f:=
 ⟨h.gr.keep hx,h.pre,h.blk.ext hx,h.row.ext hx,h.map.ext hx,h.done⟩
structure ApR (g dm wb:Nat) (ev rv:Value):Prop where
 gd:g≠dm
 gw:g≠wb
 dw:dm≠wb
 eg:ev.ownBlock≠some g
 ed:ev.ownBlock≠some dm
 ew:ev.ownBlock≠some wb
 er:∀k,ev.ownBlock=some k->rv.ownBlock≠some k
 rd:rv.ownBlock≠some dm
 rw_:rv.ownBlock≠some wb
theorem WkR.apart(h:WkR ns env B g dm wb ev w ms rv f):ApR g dm wb ev rv:=by
 obtain⟨es,cl,hm⟩:=h.map.1.isMap;have hr:=h.gr.row;have he:=h.row;unfold Ak at hr;unfold AG at he;exact⟨CD h.gr.blk hm,Fr h.gr.blk h.blk (by decide),(CD h.blk hm).symm,BG he h.gr.blk (by decide),C8 he hm,BG he h.blk (by decide),fun k hk=>GF he hr (by decide) hk,C8 hr hm,BG hr h.blk (by decide)⟩
theorem WkR.put(h:WkR ns env B g dm wb ev w ms rv f)(hk:KG g g rv rv' w w')(hg:GrR B g w' ms' rv')(hp:ms <+: ms'):WkR ns env B g dm wb ev w' ms' rv' f:=by
 have ha:=h.apart;refine⟨hg,h.pre.trans hp,hk.blk h.blk ha.gw.symm ha.gw.symm ha.rw_,h.row.at (fun k hk2=>hk.block k (Ax h.row hk2) (fun e=>ha.eg (e ▸ hk2)) (fun e=>ha.eg (e ▸ hk2)) (ha.er k hk2)),h.map.at (hk.block dm h.map.lt ha.gd.symm ha.gd.symm ha.rd),h.done.pre hp⟩
theorem WkR.bad(h:WkR ns env B g dm wb ev w ms rv f):WkR ns env B g dm wb ev (w.setCell ⟨wb,3,none⟩ (.int .i64 0)) ms rv f:=by
 have ha:=h.apart;have aC:∀k,k≠wb->(w.setCell ⟨wb,3,none⟩ (.int .i64 0)).heap[k]? =w.heap[k]? :=fun k hk=>Below.heap_setCell _ _ _ k hk
 exact⟨⟨(aC g ha.gw).trans h.gr.blk,AU h.gr.row (fun k hk=>aC k (fun e=>ha.rw_ (e ▸ hk))),h.gr.lo,h.gr.ok,h.gr.few⟩,h.pre,h.blk.set_ 3 (.int .i64 0),h.row.at (fun k hk=>aC k (fun e=>ha.ew (e ▸ hk))),h.map.at (aC dm ha.dw),h.done⟩
theorem WkR.note(h:WkR ns env B g dm wb ev w ms rv f){i j:Nat}{e:Ex}(hc:AM ns env i e)(hr:Rep ms j e):
  ∃w',(Instr.mapUpdate 157 (.map (some dm)) (.int .i64 (i:Int)) (.int .i64 (j:Int))).run Tryz.prog w= .ok () w'/\WkR ns env B g dm wb ev w' ms rv (fun k=>if k=(i:Int) then some (j:Int) else f k)/\w.grownBy w' (some dm):=by
 have ha:=h.apart;have hi:=hc.lt;have hj:=hr.lt;have h1:=h.gr.few;have h2:=h.pre.length_le;obtain⟨w',aV,hm,hg⟩:=h.map.put (by omega) hi (z:=j) (by omega);have aC:∀k,k<w.heap.size->k≠dm->w'.heap[k]? =w.heap[k]? :=fun k hk hne=>hg.block k hk (fun e=>hne (by injection e))
 exact⟨w',aV,⟨⟨(aC g h.gr.lt ha.gd).trans h.gr.blk,AU h.gr.row (fun k hk=>aC k (Ax h.gr.row hk) (fun e=>ha.rd (e ▸ hk))),h.gr.lo,h.gr.ok,h.gr.few⟩,h.pre,(aC wb h.blk.lt ha.dw.symm).trans h.blk,h.row.at (fun k hk=>aC k (Ax h.row hk) (fun e=>ha.ed (e ▸ hk))),hm,h.done.put hc hr⟩,hg⟩
end
def TD(ns:List Nd)(env:Env)(B g dm wb:Nat)(ev:Value)(i:Nat)(e:Ex)(w:World)(ms:List Nd)(rv:Value)(r:Ending)(w':World):Prop:=
 ∃rv' f',r= .returned (.int .i64 ((Ai ms e).1:Int))/\WkR ns env B g dm wb ev w' (Ai ms e).2 rv' f'/\f' (i:Int)=some ((Ai ms e).1:Int)/\KX (XR g dm wb) rv rv' w w'
theorem Ji(B g:Nat)(w:World)(ns:List Nd)(rv:Value)(h:GrR B g w ns rv)(x:Nd)(hx:CP ns.length x)(a5:(AN ns x).2.length<=4096):
  Calls Tryz.prog 138 #[.pointer (some ⟨g,0,none⟩),ndV x] w (Hm B g ns rv x w):=by
 by_cases hin:x∈ns
 ·exact Mg B g w ns rv h x hx hin
 ·refine Mh B g w ns rv h x hx hin ?_
  unfold AN at a5;rw[if_neg hin,List.length_append,List.length_singleton]at a5;omega
def OL(w:World)(s:List UInt8)(e:Ending)(w':World):Prop:=
 ∃v,e= .returned (.tuple #[v,.int .i64 ((DJ s).2.1:Int),.int .i64 ((DJ s).2.2:Int)])/\Ext w w'/\Ak w.heap.size w' v (O6 (DJ s).1)
theorem NH(w:World)(s:List UInt8)(hm:BC w):Calls Tryz.prog 15 #[str s] w (OL w s):=by
 have qa:=J (PG w s hm);have HM:=J hm;have dn:=J (Ny s);have fG:=Pz s;have eO:Hid (DJ s=if (Bh s).2.2≠0 then (none,(Bh s).2.1,(Bh s).2.2)
  else if (Be (Bh s).1 ((Bh s).1.length+1) 0).2<(Bh s).1.length then (none,((Bh s).1.getD (Be (Bh s).1 ((Bh s).1.length+1) 0).2 ⟨0,0,[]⟩).at_,6)
  else match (Be (Bh s).1 ((Bh s).1.length+1) 0).1 with
   |none=>(none,s.length,6)
   |some x=>if x.big=false/\x.size<=200/\x.depth<=40 then (some x,s.length,0) else (none,0,7)):=J rfl
 unfold I0 at qa;unfold OL;generalize DJ s=R at *;generalize (Bh s).2.1=sk at *;generalize (Bh s).2.2=se at *;generalize (Bh s).1=ts at *;clear hm;by_cases he0:se=0
 ·subst he0;have px:(if (0:Nat)≠0 then ((none:Option Ex),sk,(0:Nat)) else if (Be ts (ts.length+1) 0).2<ts.length then (none,(ts.getD (Be ts (ts.length+1) 0).2 ⟨0,0,[]⟩).at_,6) else match (Be ts (ts.length+1) 0).1 with|none=>(none,s.length,6)|some x=>if x.big=false/\x.size<=200/\x.depth<=40 then (some x,s.length,0) else (none,0,7))=(if (Be ts (ts.length+1) 0).2<ts.length then (none,(ts.getD (Be ts (ts.length+1) 0).2 ⟨0,0,[]⟩).at_,6) else match (Be ts (ts.length+1) 0).1 with|none=>(none,s.length,6)|some x=>if x.big=false/\x.size<=200/\x.depth<=40 then (some x,s.length,0) else (none,0,7)):=by rw[if_neg (by simp)]
  have mw:=J (eO.o.trans px);clear eO px;have ut:=PT dn.o (ts.length+1);have ez:=Em ts (ts.length+1) 0 (Nat.zero_le _);have hz:(((0:Nat):Int))=0:=rfl;rw[hz]at qa;clear hz;obtain⟨n,hn⟩:∃n,n=ts.length:=⟨_,rfl⟩;have HN:=J hn;rw[<-hn]at qa;clear hn;go_enter Tryz.func15,Tryz.ntmps15;go_wp2_with fail;refine qa.o.mono ?_
  rintro e w1 ⟨v1,rfl,cI,am⟩;have yW:ER w1 v1 ts:=ER.of (by rw[HN.o]at cI;exact cI);obtain⟨A1,c1,rfl⟩:=Am cI;obtain⟨w2,aY⟩:∃w2,w2=w1.alloc (.cells #[.slice A1 n c1,.int .i64 0,.bool false,.slice none 0 0,.bool false] 120):=⟨_,rfl⟩;have nz:Ext w1 w2:=by rw[aY];exact(Ext.refl w1).alloc _
  have aq:=J (am.trans nz);have k9:=J (HM.o.ext (am.trans nz));have aS:RdR w1.heap.size w2 ts 0 false [] false (.slice A1 n c1) (.slice none 0 0):=⟨by rw[aY];exact Blk.new w1 _ _,Ak.nil _ _,(IP.of yW).below nz,Nat.zero_le _,Nat.zero_le _,fG⟩;have WY:=J aS;have xY:=J ((IP.of yW).below nz);have UQ:=J (Rb w1.heap.size ts (.slice A1 n c1) dn.o (ts.length+1) 0 (by omega) w2 [] false (.slice none 0 0) aS);have jp:Hid (w.heap.size<=w1.heap.size):=J am.size;clear cI am yW nz aS;go_upto_region 5 with fail;rw[<-aY];clear aY;generalize w1.heap.size=g at *;go_wp2_with fail;refine UQ.o.mono ?_
  intro e w3 ak;obtain⟨r,hr⟩:∃r,Be ts (ts.length+1) 0=r:=⟨_,rfl⟩;rw[hr]at ez;have HR:=J mw.o;rw[hr]at HR;have hall:∀b:Nat,b<ts.length->Hid (∃A:Addr,True):=fun _ _=>J ⟨⟨0,0,none⟩,trivial⟩
  clear hall;obtain⟨_|x,b⟩:=r
  ·obtain⟨rfl,aZ,ko,kp,aS,hk⟩:=ak.none_ hr;have jS:=hk.below (ns:=[]) (Ak.nil _ _) (Nat.le_of_lt WY.o.blk.lt);have aj:Hid (Ext w w3):=J (aq.o.more (Below.mono jS jp.o));obtain⟨⟨k0,k1,k2,k3,k4⟩,_,jN⟩:=aS.blk.five';obtain⟨A9,c9,zM,oh⟩:=xY.o.below jS;injection zM with he1 he2 he3
   subst he1;clear he2 he3;simp only at HR;by_cases hb:b<ts.length
   ·obtain⟨bk,b9,_,_,hcx⟩:=oh (by omega);clear oh;subst b9;have q1:=(hcx b hb).2.1;have kL:(ts.getD b ⟨0,0,[]⟩).at_=ts[b].at_:=by rw[List.getD_eq_getElem?_getD,List.getElem?_eq_getElem hb];rfl
    have i3:Hid (R=(none,ts[b].at_,6)):=J (by rw[HR.o,if_pos hb,kL]);have fJ:b<n:=by rw[HN.o];exact hb
    have z1:decide (b<n)=true:=decide_eq_true fJ;generalize ts[b].at_=ta at *;clear ak hr aS hk jS hcx kL HR mw hb ez;go_wp2_with fail;go_region;go_wp2_with fail;go_ret3;rw[i3.o];exact⟨_,rfl,aj.o.trans (Ext.refl w3).drew,Ak.nil _ _⟩
   ·have i3:Hid (R=(none,s.length,6)):=J (by rw[HR.o,if_neg hb]);have fJ:¬b<n:=by rw[HN.o];exact hb
    have z1:decide (b<n)=false:=decide_eq_false fJ;clear ak hr aS hk jS oh HR mw hb ez;go_wp2_with fail;go_ret3;rw[i3.o];exact⟨_,rfl,aj.o,Ak.nil _ _⟩
  ·obtain⟨rfl,aZ,aS,hk⟩:=ak.some_ hr;rw[Bool.false_or]at aS;have hw:=ut _ _ _ hr;have jS:=hk.below (ns:=[]) (Ak.nil _ _) (Nat.le_of_lt WY.o.blk.lt);have aj:Hid (Ext w w3):=J (aq.o.more (Below.mono jS jp.o));obtain⟨⟨k0,k1,k2,k3,k4⟩,_,jN⟩:=aS.blk.five';obtain⟨A9,c9,zM,oh⟩:=xY.o.below jS;injection zM with he1 he2 he3
   subst he1;clear he2 he3;simp only at HR;by_cases hb:b<ts.length
   ·obtain⟨bk,b9,_,_,hcx⟩:=oh (by omega);clear oh;subst b9;have q1:=(hcx b hb).2.1;have kL:(ts.getD b ⟨0,0,[]⟩).at_=ts[b].at_:=by rw[List.getD_eq_getElem?_getD,List.getElem?_eq_getElem hb];rfl
    have i3:Hid (R=(none,ts[b].at_,6)):=J (by rw[HR.o,if_pos hb,kL]);have fJ:b<n:=by rw[HN.o];exact hb
    have z1:decide (b<n)=true:=decide_eq_true fJ;generalize ts[b].at_=ta at *;clear ak hr aS hk jS hcx kL HR mw hb ez;go_wp2_with fail;go_region;go_wp2_with fail;go_ret3;rw[i3.o];exact⟨_,rfl,aj.o.trans (Ext.refl w3).drew,Ak.nil _ _⟩
   ·have fJ:¬b<n:=by rw[HN.o];exact hb
    have z1:decide (b<n)=false:=decide_eq_false fJ;have aH:=aS.row;have hfew:=aS.few;have Y0:=aS.le;rw[List.nil_append,List.length_nil]at aH hfew;have pg:=J (aH.mono (B':=w.heap.size) (by have:=jp.o;omega));cases hbg:x.big
    ·have eT:=hw.good hbg;have VK:=Ii x eT;have W5:=J (Kt w3 aZ (Ag 0 x) aH.read (by omega) (JT x hw 0));have i3:Hid (R=if Gy (Ag 0 x)=true then (some x,s.length,0) else (none,0,7)):=J (by
      rw[HR.o,if_neg hb,VK,hbg];simp)
     rw[hbg]at k4;obtain⟨A2,c2,m2,rfl,lB⟩:=aH.shape3;generalize Gy (Ag 0 x)=vb at *;clear ak hr aS hk jS oh HR mw hb ez aH hfew VK lB hbg;cases vb
     ·go_wp2_with fail;refine W5.o.mono ?_
      rintro e w4 ⟨rfl,aR⟩;have aE:=J (aj.o.trans aR);clear aR;go_wp2_with fail;go_ret3;rw[i3.o];exact⟨_,rfl,aE.o,Ak.nil _ _⟩
     ·go_wp2_with fail;refine W5.o.mono ?_
      rintro e w4 ⟨rfl,aR⟩;have aE:=J (aj.o.trans aR);have UU:=J (pg.o.ext aR);have qE:=(aR.cell (b:=g) (o:=3) jN).trans k3;clear aR;go_wp2_with fail;go_ret3;rw[i3.o];exact⟨_,rfl,aE.o,UU.o⟩
    ·have i3:Hid (R=(none,0,7)):=J (by
      rw[HR.o,if_neg hb,hbg];simp)
     rw[hbg]at k4;clear ak hr aS hk jS oh HR mw hb ez aH hfew hbg pg;go_wp2_with fail;go_ret3;rw[i3.o];exact⟨_,rfl,aj.o,Ak.nil _ _⟩
 ·have ks:((se:Int) != 0)=true:=by rw[bne_iff_ne];omega
  have qb:Hid (R=(none,sk,se)):=J (by rw[eO.o,if_pos he0]);clear eO dn;obtain⟨sz,cQ⟩:∃sz:Int,sz=(se:Int):=⟨_,rfl⟩;rw[<-cQ]at ks qa;have fK:=J cQ;clear cQ he0;go_enter Tryz.func15,Tryz.ntmps15;go_wp2_with fail;refine qa.o.mono ?_
  rintro e w1 ⟨v1,rfl,cI,am⟩;obtain⟨A1,c1,rfl⟩:=Am cI;have ah:=J am;clear cI am;go_wp2_with fail;go_ret3;rw[qb.o];exact⟨_,by rw[fK.o];rfl,ah.o,Ak.nil _ _⟩
def Kd(B g b:Nat)(nv:Value)(i:Nat)(ms:List Nd)(w:World)(r:Ending)(w':World):Prop:=
 ∃nv',r= .returned (.int .i64 (i:Int))/\KG g b nv nv' w w'/\GrP B g b w' ms nv'
theorem Gk(B g b:Nat)(w:World)(ns:List Nd)(nv:Value)(h:GrP B g b w ns nv)(t:List UInt8)(e:Ex)(n i:Nat)(ms:List Nd)(hp:DJ t=(some e,n,0))(ha:Ai ns e=(i,ms))(hg:e.Good)(cQ:e.size<=200)(jh:e.depth<=40)(a5:ns.length+e.size<=4096)(hm:BC w):
  Calls Tryz.prog 90 #[.pointer (some ⟨g,0,none⟩),str t] w (Kd B g b nv i ms w):=by
 have HG:=J h;have HM:=J hm;have HP:=J (NH w t hm);unfold OL at HP;rw[hp]at HP;have mL:=J (fun W v (al:GrP B g b W ns nv) hv hmm=>QP B g b W ns nv v e al hv hg cQ jh hmm a5);unfold Pk at mL;rw[ha]at mL;unfold Kd;clear h hm hp ha hg cQ jh a5;go_enter Tryz.func90,Tryz.ntmps90;go_wp2_with fail;refine HP.o.mono ?_
 rintro r w1 ⟨v1,rfl,hx,hr⟩;have HX:=J hx;have HF:=J (Cg.new hr HG.o);have jp:=J (HG.o.keep hx);have gH:=J (mL.o w1 v1 jp.o (Cg.new hr HG.o) (HM.o.ext hx));obtain⟨A1,c1,rfl⟩:=hr.shape;clear hx hr HP HF;go_wp2_with fail;refine gH.o.mono ?_
 rintro r w2 ⟨nv2,rfl,hk,jO⟩;have HK:=J ((KG.of_ext HX.o).trans hk);have dE:=J jO;clear hk jO gH mL;go_wp2_with fail;go_ret;exact⟨nv2,rfl,HK.o,dE.o⟩
def LW(ns:List Nd)(w:World)(e:Ending)(w':World):Prop:=∃g b nv,e= .returned (.pointer (some ⟨g,0,none⟩))/\GrP w.heap.size g b w' ns nv/\Ext w w'
theorem JF(B gr:Nat)(w:World)(ns:List Nd)(rv:Value)(h:GrR B gr w ns rv)(hm:BC w):Calls Tryz.prog 32 #[.pointer (some ⟨gr,0,none⟩)] w (LW ns w):=by
 have lQ:=J (K2 _ w _ ns h.row h.ok h.few hm);obtain⟨A,c,rfl⟩:=h.row.shape;have k0:=h.blk.oneG;unfold Ho at lQ;unfold LW;clear h hm;go_enter Tryz.func32,Tryz.ntmps32;go_wp2_with fail;refine lQ.o.mono ?_
 rintro e w2 ⟨g,b,nv,rfl,hg,hx⟩;have HG:=J hg;have HX:=J hx;clear hg hx lQ k0;go_wp2_with fail;go_ret;exact⟨g,b,nv,rfl,HG.o,HX.o⟩
structure Kq (B g b gr:Nat) (w:World) (n1 n2:List Nd) (nv rv:Value):Prop where
 p:GrP B g b w n1 nv
 r:GrR B gr w n2 rv
 ap:∀j,nv.ownBlock=some j->rv.ownBlock≠some j
theorem JC{w:World}{b:Nat}{ns:List Nd}(h:DA w b ns):∃es cl,w.heap[b]? =some (.map es cl):=by
 obtain⟨es,cl,hb,_⟩:=h;exact⟨es,cl,hb⟩
section
variable {B C g b gr:Nat} {w w':World} {n1 n2 m1:List Nd} {nv rv nv' ev:Value} {env:Env}
theorem Kq.prog(h:Kq B g b gr w n1 n2 nv rv)(hk:KG g b nv nv' w w')(hp:GrP B g b w' m1 nv'):Kq B g b gr w' m1 n2 nv' rv:=by
 obtain⟨es,cl,oX⟩:=JC h.p.map;refine⟨hp,⟨(hk.block gr h.r.lt (Fr h.r.blk h.p.blk (by decide)) (CD h.r.blk oX) (BG h.p.row h.r.blk (by decide))).trans h.r.blk,AU h.r.row (fun k hk2=>hk.block k (Ax h.r.row hk2) (fun e=>BG h.r.row h.p.blk (by decide) (e ▸ hk2)) (fun e=>C8 h.r.row oX (e ▸ hk2)) (fun e=>h.ap k e hk2)),h.r.lo,h.r.ok,h.r.few⟩,fun j hj hr=> ?_⟩;rcases hk.move j hj with h1|h1
 ·exact h.ap j h1 hr
 ·have:=Ax h.r.row hr;omega
theorem Kq.refer(h:Kq B g b gr w n1 n2 nv rv)(hk:KG gr gr rv nv' w w')(hr:GrR B gr w' m1 nv'):Kq B g b gr w' n1 m1 nv nv':=by
 obtain⟨es,cl,oX⟩:=JC h.p.map;have hne:g≠gr:=Fr h.p.blk h.r.blk (by decide);have hnb:b≠gr:=fun e=>CD h.r.blk oX e.symm
 refine⟨⟨(hk.block g h.p.lt hne hne (BG h.r.row h.p.blk (by decide))).trans h.p.blk,AU h.p.row (fun k hk2=>hk.block k (Ax h.p.row hk2) (fun e=>BG h.p.row h.r.blk (by decide) (e ▸ hk2)) (fun e=>BG h.p.row h.r.blk (by decide) (e ▸ hk2)) (fun e=>h.ap k hk2 e)),h.p.map.kept (hk.block b h.p.map.lt hnb hnb (C8 h.r.row oX)),h.p.lo,h.p.lo2,h.p.ok,h.p.few,h.p.low⟩,hr,fun j hj hr=> ?_⟩;rcases hk.move j hr with h1|h1
 ·exact h.ap j hj h1
 ·have:=Ax h.p.row hj;omega
theorem Kq.keep(h:Kq B g b gr w n1 n2 nv rv)(hx:Ext w w'):Kq B g b gr w' n1 n2 nv rv:=⟨h.p.keep hx,h.r.keep hx,h.ap⟩
theorem AG.prog(he:AG C w ev env)(h:GrP B g b w n1 nv)(hk:KG g b nv nv' w w'):AG C w' ev env:=by
 obtain⟨es,cl,oX⟩:=JC h.map;exact he.at (fun k hk2=>hk.block k (Ax he hk2) (fun e=>BG he h.blk (by decide) (e ▸ hk2)) (fun e=>C8 he oX (e ▸ hk2)) (GF he h.row (by decide) hk2))
theorem AG.refer(he:AG C w ev env)(h:GrR B gr w n1 rv)(hk:KG gr gr rv nv' w w'):AG C w' ev env:=
 he.at (fun k hk2=>hk.block k (Ax he hk2) (fun e=>BG he h.blk (by decide) (e ▸ hk2)) (fun e=>BG he h.blk (by decide) (e ▸ hk2)) (GF he h.row (by decide) hk2))
end
structure F2 (w0:World) (g b gr:Nat) (ev:Value) (env:Env) (w:World) (n1 n2:List Nd) (nv rv:Value):Prop where
 two:Kq w0.heap.size g b gr w n1 n2 nv rv
 ow:AG w0.heap.size w ev env
 mx:BC w
 ex:Ext w0 w
section
variable {w0 w w':World} {g b gr:Nat} {ev nv rv nv':Value} {env:Env} {n1 n2 m1:List Nd}
theorem F2.prog(h:F2 w0 g b gr ev env w n1 n2 nv rv)(hk:KG g b nv nv' w w')(hp:GrP w0.heap.size g b w' m1 nv'):F2 w0 g b gr ev env w' m1 n2 nv' rv:=
 ⟨h.two.prog hk hp,h.ow.prog h.two.p hk,h.mx.below (hk.below h.two.p) h.two.p.low,h.ex.more (hk.below h.two.p)⟩
theorem F2.refer(h:F2 w0 g b gr ev env w n1 n2 nv rv)(hk:KG gr gr rv nv' w w')(hp:GrR w0.heap.size gr w' m1 nv'):F2 w0 g b gr ev env w' n1 m1 nv nv':=
 ⟨h.two.refer hk hp,h.ow.refer h.two.r hk,h.mx.below (hk.belowR h.two.r) h.two.p.low,h.ex.more (hk.belowR h.two.r)⟩
theorem F2.keep(h:F2 w0 g b gr ev env w n1 n2 nv rv)(hx:Ext w w'):F2 w0 g b gr ev env w' n1 n2 nv rv:=
 ⟨h.two.keep hx,h.ow.ext hx,h.mx.ext hx,h.ex.trans hx⟩
end
def Snd(w:World)(e:Ending)(w':World):Prop:=∃g b gr ns nv rv ev env d,e= .returned (.tuple #[.pointer (some ⟨g,0,none⟩),.pointer (some ⟨gr,0,none⟩),ev,.bool d])/\F2 w g b gr ev env w' ns ns nv rv/\ns.length<=75/\env.length<=5/\TxE env/\(d=true↔AO ns env)
theorem BC.low{w:World}(h:BC w):0<w.heap.size:=by
 obtain⟨m,h⟩:=h;rcases Nat.lt_or_ge 0 w.heap.size with h1|h1
 ·exact h1
 ·unfold World.cell? at h;simp only at h;rw[Array.getElem?_eq_none h1]at h;cases h
theorem FF(w:World)(v u:Value)(l m:List Int)(hl:De w v l)(hm:De w u m)(fG:l.length<=1000000)(Yr:m.length<=1000000)(gP:BC w):
  Calls Tryz.prog 36 #[v,u] w (Snd w):=by
 have xd:=J (JD w v l hl fG);have sY:=J gP;have HAM:=J hm;obtain⟨A0,c0,rfl,vq,vp,vo⟩:=hl.open;obtain⟨A1,c1,rfl,gA,zD,fz⟩:=hm.open;unfold Snd;clear hl hm vq vp vo gA zD fz gP;go_enter Tryz.func36,Tryz.ntmps36;go_wp2_with fail;refine xd.o.mono ?_
 rintro e w1 ⟨gr,ns,rv,rfl,o6,fx,am⟩;have ah:=J am;have jp:=J o6;have eH:=J fx;have kf:=J (MG (w.heap.size+1) gr w1 ns rv o6 _ m (HAM.o.ext am) Yr);unfold I1 at kf;clear am o6 fx xd;go_wp2_with fail;refine kf.o.mono ?_
 rintro e w2 ⟨ev,env,rfl,bN,he5,cd,au⟩;have aq:=J au;have el:=J bN;have ll:=J he5;have eD:=J cd;have dE:=J (jp.o.keep au);have j9:=J (JF _ gr w2 ns rv (jp.o.keep au) (sY.o.ext (ah.o.trans au)));obtain⟨A2,c2,rfl⟩:=bN.shape;have cj:Hid (env.length<=100000):=J (by omega);generalize hme:env.length=me at *;have dB:=J hme;unfold LW at j9;clear au bN he5 cd kf hme;go_wp2_with fail;refine j9.o.mono ?_
 rintro e w3 ⟨g,b,nv,rfl,jN,ae⟩;have aj:=J ae;have eQ:=J jN;have j7:=J (el.o.ext ae);have eE:=J (dE.o.keep ae);have iH:=J (Ee _ gr w3 ns rv (dE.o.keep ae) _ env (el.o.ext ae).read (by rw[dB.o];exact cj.o) eD.o);unfold Cp at iH;clear ae jN j9;go_wp2_with fail;refine iH.o.mono ?_
 rintro e w4 ⟨d,rfl,hd,aR⟩;have aE:=J aR;have HD:=J hd;clear aR hd iH;go_wp2_with fail;refine bodyPost_ret (v:= .tuple #[.pointer (some ⟨g,0,none⟩),.pointer (some ⟨gr,0,none⟩),.slice A2 me c2,.bool d]) (by simp[results,Tryz.results36,go_sem]) rfl ?_
 have iJ:=sY.o.low;have eF:=ah.o.size;have gk:=aq.o.size;have X5:=aj.o.size;have oT:=(ah.o.trans aq.o).trans (aj.o.trans aE.o);refine⟨g,b,gr,ns,nv,rv,_,env,d,rfl,⟨⟨?_,?_,?_⟩,(j7.o.ext aE.o).mono eF,sY.o.ext oT,oT⟩,eH.o,by rw[dB.o];exact ll.o,eD.o,HD.o⟩
 ·have q:=eQ.o.keep aE.o;exact⟨q.blk,q.row.mono (by omega),q.map,Nat.le_trans (by omega) q.lo,Nat.le_trans (by omega) q.lo2,q.ok,q.few,iJ⟩
 ·have q:=eE.o.keep aE.o;exact⟨q.blk,q.row.mono (by omega),by have:=q.lo;omega,q.ok,q.few⟩
 ·intro j hj hr;have k1:=AC eQ.o.row j hj;have k2:=Ax dE.o.row hr;omega
end Big
end Go.Proofs.YtkoaogkknnelaaaGreatDoor
