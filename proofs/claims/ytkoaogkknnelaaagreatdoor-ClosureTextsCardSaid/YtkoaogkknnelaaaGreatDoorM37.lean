import Derived.Shelf.SlMaps.Clone
import Derived.Test.YtkoaogkknnelaaaGreatDoorM36
set_option linter.unusedVariables false
set_option linter.unusedSimpArgs false
set_option maxHeartbeats 4000000
set_option maxRecDepth 100000
namespace Go.Proofs.YtkoaogkknnelaaaGreatDoor
namespace Big
open Lib renaming hid → J
def E5(ns:List Nd)(env:Env)(ms:List Nd)(f:Int->Option Int):Prop:=
 ∀k z,f k=some z->∃(i j:Nat) (e:Ex),k=(i:Int)/\z=(j:Int)/\Bt ns env i e/\Rep ms j e
section
variable {ns ms ms':List Nd} {env:Env} {f:Int->Option Int}
theorem E5.none:E5 ns env ms (fun _=>none):=fun k z h=>by cases h
theorem E5.pre(h:E5 ns env ms f)(hp:ms <+: ms'):E5 ns env ms' f:=fun k z hk=>by
 obtain⟨i,j,e,h1,h2,h3,h4⟩:=h k z hk;exact⟨i,j,e,h1,h2,h3,h4.pre hp⟩
theorem E5.put(h:E5 ns env ms f){i j:Nat}{e:Ex}(hc:Bt ns env i e)(hr:Rep ms j e):E5 ns env ms (fun k=>if k=(i:Int) then some (j:Int) else f k):=by
 intro k z hk;by_cases hki:k=(i:Int)
 ·simp only[if_pos hki]at hk;injection hk with hk
  exact⟨i,j,e,hki,hk.symm,hc,hr⟩
 ·simp only[if_neg hki]at hk;exact h k z hk
theorem E5.found(h:E5 ns env ms f)(hn:ms.Nodup){i:Nat}{e:Ex}(hc:Bt ns env i e){z:Int}(hf:f (i:Int)=some z):z=((AC ms e).1:Int)/\(AC ms e).2=ms:=by
 obtain⟨i',j,e',h1,h2,h3,h4⟩:=h _ _ hf;obtain rfl:i=i':=by omega
 obtain rfl:=hc.uniq h3;rw[SY hn h4];exact⟨h2,rfl⟩
end
def Hl(ns:List Nd)(env:Env)(id z c:Int)(ms:List Nd):Prop:=
 (¬(0<=id/\id<(ns.length:Int))/\z=0/\c=1/\ms=ns)\/
 (0<=id/\id<(ns.length:Int)/\¬CY ns env id.toNat/\z=0/\c=8/\ms=ns)\/
 (0<=id/\id<(ns.length:Int)/\CY ns env id.toNat/\∃e,Bt ns env id.toNat e/\
  (((AC ns e).2.length<=4096/\z=((AC ns e).1:Int)/\c=0/\ms=(AC ns e).2)\/(4096<(AC ns e).2.length/\z=0/\c=7/\ms=ns)))
theorem Hl.uniq{ns:List Nd}{env:Env}{id z c z' c':Int}{ms ms':List Nd}(h:Hl ns env id z c ms)(h':Hl ns env id z' c' ms'):z=z'/\c=c'/\ms=ms':=by
 rcases h with ⟨h1,rfl,rfl,rfl⟩|⟨h1,h2,h3,rfl,rfl,rfl⟩|⟨h1,h2,h3,e,h4,h5⟩
 ·rcases h' with ⟨k1,rfl,rfl,rfl⟩|⟨k1,k2,k3,_⟩|⟨k1,k2,k3,_⟩
  ·exact⟨rfl,rfl,rfl⟩
  ·exact absurd ⟨k1,k2⟩ h1
  ·exact absurd ⟨k1,k2⟩ h1
 ·rcases h' with ⟨k1,_⟩|⟨k1,k2,k3,rfl,rfl,rfl⟩|⟨k1,k2,k3,_⟩
  ·exact absurd ⟨h1,h2⟩ k1
  ·exact⟨rfl,rfl,rfl⟩
  ·exact absurd k3 h3
 ·rcases h' with ⟨k1,_⟩|⟨k1,k2,k3,_⟩|⟨k1,k2,k3,e',k4,k5⟩
  ·exact absurd ⟨h1,h2⟩ k1
  ·exact absurd h3 k3
  ·obtain rfl:=h4.uniq k4;rcases h5 with ⟨a1,rfl,rfl,rfl⟩|⟨a1,rfl,rfl,rfl⟩
   ·rcases k5 with ⟨b1,rfl,rfl,rfl⟩|⟨b1,_⟩
    ·exact⟨rfl,rfl,rfl⟩
    ·omega
   ·rcases k5 with ⟨b1,_⟩|⟨b1,rfl,rfl,rfl⟩
    ·omega
    ·exact⟨rfl,rfl,rfl⟩
theorem Dd.clo{ns ms:List Nd}{env:Env}(hs:Ax ns)(zg:Ax ms)(he:Bv ns env)(h:Dd ns env ms)(hb:2*ns.length<=4096){id z c:Int}{ms':List Nd}(hr:Hl ms env id z c ms'):
  Dd ns env ms'/\Ax ms'/\ms <+: ms'/\c≠7:=by
 rcases hr with ⟨h1,rfl,rfl,rfl⟩|⟨h1,h2,h3,rfl,rfl,rfl⟩|⟨h1,h2,h3,e,h4,h5⟩
 ·exact⟨h,zg,qcf _,by decide⟩
 ·exact⟨h,zg,qcf _,by decide⟩
 ·have VJ:∃i,Bt ns env i e:=by
   rcases qam id.toNat ns.length with hi|hi
   ·refine⟨id.toNat,?_⟩;have hbd:CY ns env id.toNat:=fun t ht=>h3 t ((BO.pre hs h.1 he.ok hi t).2 ht)
    obtain⟨e',X6⟩:=he.closed hs id.toNat hi hbd;obtain rfl:=h4.uniq (X6.pre h.1);exact X6
   ·obtain⟨i,e',h6,h7⟩:=h.2 id.toNat hi (by omega);have h8:=Bt.rep (env:=env) h6.good h7 h6.free;obtain rfl:=h4.uniq h8;exact⟨i,h6⟩
  obtain⟨i,hi⟩:=VJ;have ha:=Dd.add hi h;have Xw:=zg.add e h4.good;have ak:=ha.len Xw.1;rcases h5 with ⟨a1,rfl,rfl,rfl⟩|⟨a1,_⟩
  ·exact⟨ha,Xw,E0 e ms,by decide⟩
  ·omega
open Go.RowKit
theorem On(w:World)(b:Nat)(ns:List Nd)(h:Dq w b ns):
  Calls Tryz.prog 158 #[.map (some b)] w fun e w'=>∃bn,e= .returned (.map (some bn))/\Dq w' bn ns/\w.heap.size<=bn/\Ext w w':=by
 obtain⟨es,clock,hb,he⟩:=h;refine(AnyW.maps_Clone Tryz.cloneMapIt b es clock w hb).mono ?_
 rintro e w' ⟨rfl,rfl⟩;exact⟨_,rfl,⟨es,clock,(MapKept.heap_alloc w _).1,he⟩,qad _,(Ext.refl w).alloc _⟩
theorem QT(B g b:Nat)(w:World)(ns:List Nd)(nv:Value)(h:GrP B g b w ns nv):
  Calls Tryz.prog 102 #[.pointer (some ⟨g,0,none⟩)] w fun e w'=>∃g2 b2 nv2,e= .returned (.pointer (some ⟨g2,0,none⟩))/\GrP w.heap.size g2 b2 w' ns nv2/\Ext w w':=by
 have HLC:=J (fun W (hx:Ext w W)=>Oy B W nv ns (h.row.ext hx) (by have:=h.few;omega));have HMC:=J (fun W (hx:Ext w W)=>On W b ns (h.map.kept (hx.block b h.map.lt)));have bV:=J (And.intro h.ok (And.intro h.few (qaj h.low (qaR (qbD h.lo h.lt)))));obtain⟨k0,k1,f0,f1,ea⟩:=h.blk.twoG;have hkk:=And.intro k0 k1;have HKK:=J hkk;obtain⟨A,c,rfl⟩:=h.row.shape;clear h hkk;go_enter Tryz.func102,Tryz.ntmps102;go_upto_region 1 with fail;clear k0 k1 f0 f1;refine wp_region_held_drew (S:=fun w'=>Ext w w'/\w'.cell? ⟨g,0,none⟩=some (.slice A ns.length c)/\w'.cell? ⟨g,1,none⟩=some (.map (some b))) (by kernel_rfl) (by exact Oz HKK.o) (fun hHeld=> ?_);refine' wpAnyH_take (i:=0) (v:=_) rfl (by kernel_rfl) (by kernel_rfl) (by kernel_rfl) (fun _ _ _ h=>h) (Or.inl ⟨by rfl,?_⟩) hHeld ?_
 rotate_left
 ·(intro w' ab;(try dsimp only at ab);go_simp;(try with_reducible rfl))
 try simp only[pu]
 refine' wpAnyH_take (i:=1) (v:=_) rfl (by kernel_rfl) (by kernel_rfl) (by kernel_rfl) (fun _ _ _ h=>h) (Or.inl ⟨by rfl,?_⟩) hHeld ?_
 rotate_left
 ·(intro w' ab;(try dsimp only at ab);go_simp;(try with_reducible rfl))
 try simp only[pu]
 refine' wpAnyH_take (i:=2) (v:=_) rfl (by kernel_rfl) (by kernel_rfl) (by kernel_rfl) (fun _ _ _ h=>h) (Or.inl ⟨by rfl,?_⟩) hHeld ?_
 rotate_left
 ·(intro w' ab;(try dsimp only at ab);go_simp;(try with_reducible rfl))
 try simp only[pu]
 refine' wpAnyH_take (i:=3) (v:=_) rfl (by kernel_rfl) (by kernel_rfl) (by kernel_rfl) (fun _ _ _ h=>h) (Or.inl ⟨by rfl,?_⟩) hHeld ?_
 rotate_left
 ·(intro w' ab;(try dsimp only at ab);go_simp;(try with_reducible rfl))
 try simp only[pu]
 refine' wpAnyH_take (i:=5) (v:=_) rfl (by kernel_rfl) (by kernel_rfl) (by kernel_rfl) (fun _ _ _ h=>h) (Or.inl ⟨by rfl,?_⟩) hHeld ?_
 rotate_left
 ·(intro w' ab;(try dsimp only at ab);go_simp;(try with_reducible rfl))
 try simp only[pu]
 refine' wpAnyH_take (i:=6) (v:=_) rfl (by kernel_rfl) (by kernel_rfl) (by kernel_rfl) (fun _ _ _ h=>h) (Or.inl ⟨by rfl,?_⟩) hHeld ?_
 rotate_left
 ·(intro w' ab;(try dsimp only at ab);go_simp;(try with_reducible rfl))
 try simp only[pu]
 refine' wpAnyH_take (i:=7) (v:=_) rfl (by kernel_rfl) (by kernel_rfl) (by kernel_rfl) (fun _ _ _ h=>h) (Or.inl ⟨by rfl,?_⟩) hHeld ?_
 rotate_left
 ·(intro w' ab;(try dsimp only at ab);go_simp;(try with_reducible rfl))
 try simp only[pu]
 refine' wpAnyH_take (i:=8) (v:=_) rfl (by kernel_rfl) (by kernel_rfl) (by kernel_rfl) (fun _ _ _ h=>h) (Or.inl ⟨by rfl,?_⟩) hHeld ?_
 rotate_left
 ·(intro w' ab;(try dsimp only at ab);go_simp;(try with_reducible rfl))
 try simp only[pu]
 refine wpAnyH_ready (rs:=[4]) (by kernel_rfl) (by simp) ?_
 refine AllReadyH.cons (i:=4) rfl (fun K hK=> ?_) AllReadyH.nil;go_simp
 (go_at_call 157;refine(HLC.o _ hHeld.1).mono ?_;rintro e w5 ⟨v5,rfl,eI,hx5⟩;have ic:=J eI;have ba:=J hx5;have eN:=J hHeld.1.size;(try (have sd:=J (sd.o.kept (hx5.block _ sd.o.lt))));obtain⟨A5,c5,rfl⟩:=eI.shape;clear eI hx5)
 try go_wp2_with fail
 refine hK.out _ _ ?_ (fun hHeld=> ?_)
 ·exact Sw hHeld ba.o
 clear hK K;try simp only[pu]
 refine wpAnyH_ready (rs:=[9]) (by kernel_rfl) (by simp) ?_
 refine AllReadyH.cons (i:=9) rfl (fun K hK=> ?_) AllReadyH.nil;go_simp
 (go_at_call 158;refine(HMC.o _ hHeld.1).mono ?_;rintro e w6 ⟨bn,rfl,XL,tN,bz⟩;have sd:=J XL;have aZ:=J bz;have bK:=J (qaf hHeld.1.size tN);(try (have ic:=J (ic.o.ext bz)));clear XL tN bz)
 try go_wp2_with fail
 refine hK.out _ _ ?_ (fun hHeld=> ?_)
 ·exact Sw hHeld aZ.o
 clear hK K;try simp only[pu]
 refine' wpAnyH_take (i:=10) (v:=_) rfl (by kernel_rfl) (by kernel_rfl) (by kernel_rfl) (fun _ _ _ h=>h) (Or.inl ⟨by rfl,?_⟩) hHeld ?_
 rotate_left
 ·(intro w' ab;(try dsimp only at ab);go_simp;(try with_reducible rfl))
 try simp only[pu]
 have jl:=J (fun (W:World) (hr:Ai w.heap.size W (.slice A5 ns.length c5) ns) (hm:Dq W bn ns) (hx:Ext w W)=>(show GrP w.heap.size W.heap.size bn (W.alloc (.cells #[.slice A5 ns.length c5,.map (some bn)] 80)) ns (.slice A5 ns.length c5) from ⟨Blk.new W _ _,hr.ext ((Ext.refl W).alloc _),hm.kept (Below.heap_alloc _ _ _ hm.lt),hx.size,bK.o,bV.o.1,bV.o.2.1,bV.o.2.2⟩));have HFB:=J (jl.o _ (ic.o.mono eN.o) sd.o hHeld.1);refine wpAnyH_ready (rs:=[11]) (by kernel_rfl) (by simp) ?_
 refine AllReadyH.cons (i:=11) rfl (fun K hK=> ?_) AllReadyH.nil;go_simp;try go_wp2_with fail
 refine hK.out _ _ ?_ (fun hHeld=> ?_)
 ·exact Sw hHeld ((Ext.refl _).alloc _)
 clear hK K;try simp only[pu]
 refine wpAnyH_ready (rs:=[12]) (by kernel_rfl) (by simp) ?_
 refine AllReadyH.cons (i:=12) rfl (fun K hK=> ?_) AllReadyH.nil;go_simp;try go_wp2_with fail
 refine hK.out _ _ ?_ (fun hHeld=> ?_)
 ·exact hHeld
 clear hK K;try simp only[pu]
 refine wpAnyH_done (by kernel_rfl) ?_ _
 go_wp2_with fail;go_ret;refine⟨_,bn,_,?_,HFB.o,hHeld.1⟩;rfl
open Go.RowKit Go.Maps Go.Sort
structure KX (X:Nat->Prop) (nv nv':Value) (w w':World):Prop where
 os:w'.os=w.os
 tape:w'.tape=w.tape
 output:w'.output=w.output
 size:w.heap.size<=w'.heap.size
 block:∀k,k<w.heap.size->¬X k->nv.ownBlock≠some k->w'.heap[k]? =w.heap[k]?
 move:∀j,nv'.ownBlock=some j->nv.ownBlock=some j\/w.heap.size<=j
section
variable {X:Nat->Prop} {nv nv' n1 n2 n3:Value} {w w' w1 w2 w3:World}
theorem KX.of_ext(h:Ext w w'):KX X nv nv w w':=⟨h.os,h.tape,h.output,h.size,fun k hk _ _=>h.block k hk,fun _ hj=> .inl hj⟩
theorem KX.of_KG{g b:Nat}(h:KG g b nv nv' w w')(hg:X g)(hb:X b):KX X nv nv' w w':=
 ⟨h.os,h.tape,h.output,h.size,fun k hk hx hn=>h.block k hk (fun e=>hx (e ▸ hg)) (fun e=>hx (e ▸ hb)) hn,h.move⟩
theorem KX.trans(h:KX X n1 n2 w1 w2)(k:KX X n2 n3 w2 w3):KX X n1 n3 w1 w3:=
 ⟨k.os.trans h.os,k.tape.trans h.tape,k.output.trans h.output,qaf h.size k.size,fun i h1 h2 h4=>
  (k.block i (qaj h1 h.size) h2 (fun e=>by
   rcases h.move i e with h5|h5
   ·exact h4 h5
   ·omega)).trans (h.block i h1 h2 h4),fun j hj=>by
  rcases k.move j hj with h4|h4
  ·exact h.move j h4
  ·exact .inr (qaf h.size h4)⟩
theorem KX.grown(h:KX X n1 n2 w1 w2){d:Nat}(hg:w2.grownBy w3 (some d))(hd:X d):KX X n1 n2 w1 w3:=
 ⟨hg.os.trans h.os,hg.tape.trans h.tape,hg.output.trans h.output,qaf h.size hg.size,fun i h1 h2 h4=>
  (hg.block i (qaj h1 h.size) (fun e=>h2 (by injection e with e;subst e;exact hd))).trans (h.block i h1 h2 h4),h.move⟩
theorem KX.setN(h:KX X n1 n2 w1 w2){d j:Nat}(hd:w1.heap.size<=d)(u:Value):KX X n1 n2 w1 (w2.setCell ⟨d,j,none⟩ u):=
 ⟨h.os,h.tape,h.output,by simpa using h.size,fun i h1 h2 h4=>(Below.heap_setCell w2 ⟨d,j,none⟩ u i (fun e=>by have:i=d:=e;omega)).trans (h.block i h1 h2 h4),h.move⟩
theorem KX.blk(h:KX X n1 n2 w w'){j:Nat}{t:TypeId}{cs:Array Value}(hb:Blk w j t cs)(h1:¬X j)(h3:n1.ownBlock≠some j):Blk w' j t cs:=(h.block j hb.lt h1 h3).trans hb
theorem KX.below(h:KX X n1 n2 w w'){B:Nat}(hB:B<=w.heap.size)(hX:∀k,X k->B<=k)(hn:∀k,n1.ownBlock=some k->B<=k):Below B w w':=
 ⟨h.os,h.tape,h.output,h.size,fun k hk=>h.block k (by omega) (fun hx=>by have:=hX k hx;omega) (fun e=>by have:=hn k e;omega)⟩
end
def Gu(f:Int->Option Int):Lit->Option Lit
 | .int .i64 k=>(f k).map (Lit.int .i64)
 |_=>none
def Fw(w:World)(b n:Nat)(f:Int->Option Int):Prop:=AP 3 3 w b n (Gu f)/\∀k,(f k).isSome=true->0<=k/\k<(n:Int)
section
variable {w w':World} {b n:Nat} {f:Int->Option Int}
theorem Oi{α:Type}{l m:List α}(hn:l.Nodup)(h:∀x∈l,x∈m):l.length<=m.length:=by
 classical
 exact D7 hn h
theorem AP.tight{K E:TypeId}{m:Nat}{F:Lit->Option Lit}(law:Keyed Tryz.prog K)(h:AP K E w b m F){U:List Lit}(hU:∀k,(F k).isSome=true->k∈U):AP K E w b U.length F:=by
 obtain⟨D,h,h2,h3⟩:=h;obtain⟨es',hD,qu,hkey⟩:=h.entries law;obtain⟨es,clock,hb,Ft,hs,qN⟩:=h;refine⟨D,⟨es,clock,hb,Ft,?_,qN⟩,h2,h3⟩;have ak:es.size=es'.length:=by
  rw[hD]at qN;injection qN with qN
  rw[qN,length_sorted,qag,Array.length_toList]
 rw[ak,<-qag (f:=Prod.fst)];refine Oi (List.pairwise_map.2 qu) (fun x hx=> ?_);obtain⟨p,hp,rfl⟩:=qbJ.1 hx;refine hU _ ?_
 rw[<-h3,hD];exact List.any_eq_true.2 ⟨p,hp,WideAt.sameKey_self (hkey p hp)⟩
theorem Fw.made(w:World)(n:Nat):Fw (w.alloc (.map #[] 0)) w.heap.size n (fun _=>none):=
 ⟨((AP.made _ _ w).mono (qal n)).congr (fun k=>by unfold Gu;split<;>rfl),fun k h=>by cases h⟩
theorem Fw.lt(h:Fw w b n f):b<w.heap.size:=h.1.lt
theorem Fw.at(h:Fw w b n f)(hk:w'.heap[b]? =w.heap[b]?):Fw w' b n f:=⟨h.1.at hk,h.2⟩
theorem Fw.ext(h:Fw w b n f)(hx:Ext w w'):Fw w' b n f:=⟨h.1.ext hx,h.2⟩
theorem L1{k:Int}(h0: -1000000<=k)(h1:k<=1000000):(Lit.int .i64 k).wf=true:=by
 have e1:IntKind.i64.min= -9223372036854775808:=by decide
 have e2:IntKind.i64.max=9223372036854775807:=by decide
 simp only[Lit.wf,e1,e2,qaM,decide_eq_true_eq];omega
theorem Iv{k:Int}(h0: -1000000<=k)(h1:k<=1000000):keyOf Tryz.prog 3 (.int .i64 k)=some (.int .i64 k):=by
 have hk:=Tryz.underlying3;have:=L1 h0 h1;simp[keyOf,hk,mapKey]
 simpa [Lit.wf] using this
theorem Fw.put(h:Fw w b n f)(hn:n<=100000){k:Nat}(hk:k<n){z:Nat}(hz:z<=1000000):
  ∃w',(Instr.mapUpdate 157 (.map (some b)) (.int .i64 (k:Int)) (.int .i64 (z:Int))).run Tryz.prog w= .ok () w'/\Fw w' b n (fun x=>if x=(k:Int) then some (z:Int) else f x)/\w.grownBy w' (some b):=by
 obtain⟨w',hr,ho,hg⟩:=AP.put (int_keyed Tryz.underlying3) Tryz.underlying157 h.1 (by unfold maxLen;omega) (Iv (k:=(k:Int)) (by omega) (by omega)) (plainElem_int Tryz.underlying3 (L1 (k:=(z:Int)) (by omega) (by omega)));have rF:∀x,(if x=(k:Int) then some (z:Int) else f x).isSome=true->0<=x/\x<(n:Int):=by
  intro x hx;by_cases e:x=(k:Int)
  ·omega
  ·rw[if_neg e]at hx;exact h.2 x hx
 refine⟨w',hr,⟨?_,rF⟩,hg⟩;have bN:=AP.congr (f':=Gu (fun x=>if x=(k:Int) then some (z:Int) else f x)) ho (fun key=>by
  by_cases e:key=Lit.int .i64 (k:Int)
  ·subst e;rw[if_pos rfl];simp[Gu]
  ·rw[if_neg e];unfold Gu;split
   ·rename_i x;show Option.map (Lit.int .i64) (f x)=Option.map (Lit.int .i64) (if x=(k:Int) then some (z:Int) else f x);rw[if_neg (fun h:x=(k:Int)=>e (by rw[h]))]
   ·rfl)
 have ek:=AP.tight (int_keyed Tryz.underlying3) bN (U:=(List.range n).map fun (i:Nat)=>Lit.int .i64 (i:Int)) (fun key hkey=>by
  unfold Gu at hkey;split at hkey
  ·rename_i x;rw[Option.isSome_map]at hkey;have:=rF x hkey;exact qbJ.2 ⟨x.toNat,List.mem_range.2 (by omega),by rw[Int.toNat_of_nonneg this.1]⟩
  ·cases hkey)
 simp only[qag,List.length_range]at ek;exact ek
theorem Fw.look(h:Fw w b n f){k:Nat}(hk:k<=1000000):
  (Instr.lookup 157 (.map (some b)) (.int .i64 (k:Int)) true).run Tryz.prog w= .ok (.tuple #[.int .i64 ((f k).getD 0),.bool (f k).isSome]) w/\(Instr.lookup 157 (.map (some b)) (.int .i64 (k:Int)) false).run Tryz.prog w= .ok (.int .i64 ((f k).getD 0)) w:=by
 obtain⟨c,h1,h2,h3⟩:=AP.look_int (int_keyed Tryz.underlying3) Tryz.underlying157 h.1 (Iv (k:=(k:Int)) (by omega) (by omega));have e1:(Gu f (.int .i64 (k:Int))).isSome=(f k).isSome:=by simp[Gu]
 have e2:c=(f k).getD 0:=by
  cases hf:f k with
  |none=>simpa [Gu,hf] using h3.symm
  |some d=>simpa [Gu,hf] using h3.symm
 rw[e1]at h1;rw[<-e2];exact⟨h1,h2⟩
end
theorem BG.at{B:Nat}{w w':World}{v:Value}{env:Env}(h:BG B w v env)(hk:∀k,v.ownBlock=some k->w'.heap[k]? =w.heap[k]?):BG B w' v env:=AD h hk
theorem F4{B m n:Nat}{w:World}{t:TypeId}{v:Value}{xs:List Value}(h:w.ownsRow B t m v n xs){k:Nat}(hk:v.ownBlock=some k):∃cur,w.heap[k]? =some (.cells cur t (0,0)):=by
 rcases h.2 with ⟨rfl,_⟩|⟨q,cap,cur,rfl,_,hh,_⟩
 ·cases hk
 ·simp only[Value.ownBlock,qaw]at hk;subst hk;exact⟨cur,hh⟩
theorem Eg{B m n:Nat}{w:World}{t t':TypeId}{v:Value}{xs:List Value}(h:w.ownsRow B t m v n xs){k:Nat}{cs:Array Value}(hb:Blk w k t' cs)(ht:t≠t'):v.ownBlock≠some k:=by
 intro e;obtain⟨cur,hc⟩:=F4 h e;unfold Blk at hb;rw[hb]at hc;injection hc with hc
 injection hc with _ hc _
 exact ht hc.symm
theorem Fb{B m n:Nat}{w:World}{t:TypeId}{v:Value}{xs:List Value}(h:w.ownsRow B t m v n xs){k:Nat}{es:Array MapEntry}{cl:Nat}(hb:w.heap[k]? =some (.map es cl)):v.ownBlock≠some k:=by
 intro e;obtain⟨cur,hc⟩:=F4 h e;rw[hb]at hc;cases hc
theorem Jc{B B' m m' n n':Nat}{w:World}{t t':TypeId}{v v':Value}{xs Y9:List Value}(h:w.ownsRow B t m v n xs)(h':w.ownsRow B' t' m' v' n' Y9)(ht:t≠t'){k:Nat}(hk:v.ownBlock=some k):v'.ownBlock≠some k:=by
 intro e;obtain⟨cur,hc⟩:=F4 h hk;obtain⟨xO,hc'⟩:=F4 h' e;rw[hc]at hc';injection hc' with hc'
 injection hc' with _ hc' _
 exact ht hc'
theorem AP.isMap{K E:TypeId}{w:World}{b m:Nat}{f:Lit->Option Lit}(h:AP K E w b m f):∃es cl,w.heap[b]? =some (.map es cl):=by
 obtain⟨D,⟨es,clock,hb,_⟩,_⟩:=h;exact⟨es,clock,hb⟩
theorem En{w:World}{k b:Nat}{t:TypeId}{cs:Array Value}(h:Blk w k t cs){es:Array MapEntry}{cl:Nat}(hb:w.heap[b]? =some (.map es cl)):k≠b:=by
 rintro rfl;unfold Blk at h;rw[hb]at h;cases h
theorem JV{w:World}{k b:Nat}{t t':TypeId}{cs cs':Array Value}(h:Blk w k t cs)(h':Blk w b t' cs')(ht:t≠t'):k≠b:=by
 rintro rfl;unfold Blk at h h';rw[h]at h';injection h' with h'
 injection h' with _ h' _
 exact ht h'
structure WkR (ns:List Nd) (env:Env) (B g dm wb:Nat) (ev:Value) (w:World) (ms:List Nd) (rv:Value) (f:Int->Option Int):Prop where
 gr:GrR B g w ms rv
 pre:ns <+: ms
 blk:Blk w wb 164 #[.pointer (some ⟨g,0,none⟩),ev,.map (some dm),.int .i64 0]
 row:BG 0 w ev env
 map:Fw w dm ns.length f
 done:E5 ns env ms f
section
variable {ns:List Nd} {env:Env} {B g dm wb:Nat} {ev:Value} {w w':World} {ms ms':List Nd} {rv rv':Value} {f f':Int->Option Int}
structure ApR (g dm wb:Nat) (ev rv:Value):Prop where
 gd:g≠dm
 gw:g≠wb
 dw:dm≠wb
 eg:ev.ownBlock≠some g
 ed:ev.ownBlock≠some dm
 ew:ev.ownBlock≠some wb
 er:∀k,ev.ownBlock=some k->rv.ownBlock≠some k
 rd:rv.ownBlock≠some dm
 rw_:rv.ownBlock≠some wb
end
def O5(w:World)(s:List UInt8)(e:Ending)(w':World):Prop:=
 ∃v,e= .returned (.tuple #[v,.int .i64 ((EJ s).2.1:Int),.int .i64 ((EJ s).2.2:Int)])/\Ext w w'/\Ai w.heap.size w' v (TB (EJ s).1)
theorem NX(w:World)(s:List UInt8)(hm:BT w):Calls Tryz.prog 15 #[str s] w (O5 w s):=by
 have qX:=J (P5 w s hm);have HM:=J hm;have et:=J (NQ s);have gZ:=PZ s;have fX:Hid (EJ s=if (Bj s).2.2≠0 then (none,(Bj s).2.1,(Bj s).2.2)
  else if (Bh (Bj s).1 ((Bj s).1.length+1) 0).2<(Bj s).1.length then (none,((Bj s).1.getD (Bh (Bj s).1 ((Bj s).1.length+1) 0).2 ⟨0,0,[]⟩).at_,6)
  else match (Bh (Bj s).1 ((Bj s).1.length+1) 0).1 with
   |none=>(none,s.length,6)
   |some x=>if x.big=false/\x.size<=200/\x.depth<=40 then (some x,s.length,0) else (none,0,7)):=J rfl
 unfold IU at qX;unfold O5;generalize EJ s=R at *;generalize (Bj s).2.1=sk at *;generalize (Bj s).2.2=se at *;generalize (Bj s).1=ts at *;clear hm;by_cases he0:se=0
 ·subst he0;have qp:(if (0:Nat)≠0 then ((none:Option Ex),sk,(0:Nat)) else if (Bh ts (ts.length+1) 0).2<ts.length then (none,(ts.getD (Bh ts (ts.length+1) 0).2 ⟨0,0,[]⟩).at_,6) else match (Bh ts (ts.length+1) 0).1 with|none=>(none,s.length,6)|some x=>if x.big=false/\x.size<=200/\x.depth<=40 then (some x,s.length,0) else (none,0,7))=(if (Bh ts (ts.length+1) 0).2<ts.length then (none,(ts.getD (Bh ts (ts.length+1) 0).2 ⟨0,0,[]⟩).at_,6) else match (Bh ts (ts.length+1) 0).1 with|none=>(none,s.length,6)|some x=>if x.big=false/\x.size<=200/\x.depth<=40 then (some x,s.length,0) else (none,0,7)):=by rw[if_neg (by simp)]
  have mY:=J (fX.o.trans qp);clear fX qp;have vJ:=Qk et.o (ts.length+1);have ey:=D5 ts (ts.length+1) 0 (qal _);have hz:(((0:Nat):Int))=0:=rfl;rw[hz]at qX;clear hz;obtain⟨n,hn⟩:∃n,n=ts.length:=⟨_,rfl⟩;have HN:=J hn;rw[<-hn]at qX;clear hn;go_enter Tryz.func15,Tryz.ntmps15;go_wp2_with fail;refine qX.o.mono ?_
  rintro e w1 ⟨v1,rfl,cB,ar⟩;have UM:GJ w1 v1 ts:=GJ.of (by rw[HN.o]at cB;exact cB);obtain⟨A1,c1,rfl⟩:=Ao cB;obtain⟨w2,aY⟩:∃w2,w2=w1.alloc (.cells #[.slice A1 n c1,.int .i64 0,.bool false,.slice none 0 0,.bool false] 120):=⟨_,rfl⟩;have nY:Ext w1 w2:=by rw[aY];exact(Ext.refl w1).alloc _
  have am:=J (ar.trans nY);have lI:=J (HM.o.ext (ar.trans nY));have aT:RdR w1.heap.size w2 ts 0 false [] false (.slice A1 n c1) (.slice none 0 0):=⟨by rw[aY];exact Blk.new w1 _ _,Ai.nil _ _,(IJ.of UM).below nY,qal _,qal _,gZ⟩;have YL:=J aT;have zI:=J ((IJ.of UM).below nY);have Wu:=J (RL w1.heap.size ts (.slice A1 n c1) et.o (ts.length+1) 0 (by omega) w2 [] false (.slice none 0 0) aT);have f9:Hid (w.heap.size<=w1.heap.size):=J ar.size;clear cB ar UM nY aT;go_upto_region 5 with fail;rw[<-aY];clear aY;generalize w1.heap.size=g at *;go_wp2_with fail;refine Wu.o.mono ?_
  intro e w3 aj;obtain⟨r,hr⟩:∃r,Bh ts (ts.length+1) 0=r:=⟨_,rfl⟩;rw[hr]at ey;have HR:=J mY.o;rw[hr]at HR;have hall:∀b:Nat,b<ts.length->Hid (∃A:Addr,True):=fun _ _=>J ⟨⟨0,0,none⟩,trivial⟩
  clear hall;obtain⟨_|x,b⟩:=r
  ·obtain⟨rfl,bh,kP,kQ,aT,hk⟩:=aj.none_ hr;have i3:=hk.below (ns:=[]) (Ai.nil _ _) (qaR YL.o.blk.lt);have ag:Hid (Ext w w3):=J (am.o.more (Below.mono i3 f9.o));obtain⟨⟨k0,k1,k2,k3,k4⟩,_,oK⟩:=aT.blk.five';obtain⟨A9,c9,VB,oU⟩:=zI.o.below i3;injection VB with he1 he2 he3
   subst he1;clear he2 he3;simp only at HR;by_cases hb:b<ts.length
   ·obtain⟨bk,bF,_,_,hcx⟩:=oU (by omega);clear oU;subst bF;have q1:=(hcx b hb).2.1;have mF:(ts.getD b ⟨0,0,[]⟩).at_=ts[b].at_:=by rw[qac,qaa hb];rfl
    have iU:Hid (R=(none,ts[b].at_,6)):=J (by rw[HR.o,if_pos hb,mF]);have cG:b<n:=by rw[HN.o];exact hb
    have z1:decide (b<n)=true:=decide_eq_true cG;generalize ts[b].at_=ta at *;clear aj hr aT hk i3 hcx mF HR mY hb ey;go_wp2_with fail;go_region;go_wp2_with fail;go_ret3;rw[iU.o];exact⟨_,rfl,ag.o.trans (Ext.refl w3).drew,Ai.nil _ _⟩
   ·have iU:Hid (R=(none,s.length,6)):=J (by rw[HR.o,if_neg hb]);have cG:¬b<n:=by rw[HN.o];exact hb
    have z1:decide (b<n)=false:=decide_eq_false cG;clear aj hr aT hk i3 oU HR mY hb ey;go_wp2_with fail;go_ret3;rw[iU.o];exact⟨_,rfl,ag.o,Ai.nil _ _⟩
  ·obtain⟨rfl,bh,aT,hk⟩:=aj.some_ hr;rw[Bool.false_or]at aT;have hw:=vJ _ _ _ hr;have i3:=hk.below (ns:=[]) (Ai.nil _ _) (qaR YL.o.blk.lt);have ag:Hid (Ext w w3):=J (am.o.more (Below.mono i3 f9.o));obtain⟨⟨k0,k1,k2,k3,k4⟩,_,oK⟩:=aT.blk.five';obtain⟨A9,c9,VB,oU⟩:=zI.o.below i3;injection VB with he1 he2 he3
   subst he1;clear he2 he3;simp only at HR;by_cases hb:b<ts.length
   ·obtain⟨bk,bF,_,_,hcx⟩:=oU (by omega);clear oU;subst bF;have q1:=(hcx b hb).2.1;have mF:(ts.getD b ⟨0,0,[]⟩).at_=ts[b].at_:=by rw[qac,qaa hb];rfl
    have iU:Hid (R=(none,ts[b].at_,6)):=J (by rw[HR.o,if_pos hb,mF]);have cG:b<n:=by rw[HN.o];exact hb
    have z1:decide (b<n)=true:=decide_eq_true cG;generalize ts[b].at_=ta at *;clear aj hr aT hk i3 hcx mF HR mY hb ey;go_wp2_with fail;go_region;go_wp2_with fail;go_ret3;rw[iU.o];exact⟨_,rfl,ag.o.trans (Ext.refl w3).drew,Ai.nil _ _⟩
   ·have cG:¬b<n:=by rw[HN.o];exact hb
    have z1:decide (b<n)=false:=decide_eq_false cG;have au:=aT.row;have hfew:=aT.few;have hble:=aT.le;rw[qaG,qaE]at au hfew;have zK:=J (au.mono (B':=w.heap.size) (by have:=f9.o;omega));cases hbg:x.big
    ·have be:=hw.good hbg;have Xq:=Ew x be;have YQ:=J (F2 w3 bh (Ag 0 x) au.read (by omega) (JN x hw 0));have iU:Hid (R=if FA (Ag 0 x)=true then (some x,s.length,0) else (none,0,7)):=J (by
      rw[HR.o,if_neg hb,Xq,hbg];simp)
     rw[hbg]at k4;obtain⟨A2,c2,m2,rfl,cZ⟩:=au.shape3;generalize FA (Ag 0 x)=vb at *;clear aj hr aT hk i3 oU HR mY hb ey au hfew Xq cZ hbg;cases vb
     ·go_wp2_with fail;refine YQ.o.mono ?_
      rintro e w4 ⟨rfl,aJ⟩;have aD:=J (ag.o.trans aJ);clear aJ;go_wp2_with fail;go_ret3;rw[iU.o];exact⟨_,rfl,aD.o,Ai.nil _ _⟩
     ·go_wp2_with fail;refine YQ.o.mono ?_
      rintro e w4 ⟨rfl,aJ⟩;have aD:=J (ag.o.trans aJ);have Wx:=J (zK.o.ext aJ);have uV:=(aJ.cell (b:=g) (o:=3) oK).trans k3;clear aJ;go_wp2_with fail;go_ret3;rw[iU.o];exact⟨_,rfl,aD.o,Wx.o⟩
    ·have iU:Hid (R=(none,0,7)):=J (by
      rw[HR.o,if_neg hb,hbg];simp)
     rw[hbg]at k4;clear aj hr aT hk i3 oU HR mY hb ey au hfew hbg zK;go_wp2_with fail;go_ret3;rw[iU.o];exact⟨_,rfl,ag.o,Ai.nil _ _⟩
 ·have oc:((se:Int) != 0)=true:=by rw[bne_iff_ne];omega
  have qY:Hid (R=(none,sk,se)):=J (by rw[fX.o,if_pos he0]);clear fX et;obtain⟨sz,hsz⟩:∃sz:Int,sz=(se:Int):=⟨_,rfl⟩;rw[<-hsz]at oc qX;have fV:=J hsz;clear hsz he0;go_enter Tryz.func15,Tryz.ntmps15;go_wp2_with fail;refine qX.o.mono ?_
  rintro e w1 ⟨v1,rfl,cB,ar⟩;obtain⟨A1,c1,rfl⟩:=Ao cB;have ah:=J ar;clear cB ar;go_wp2_with fail;go_ret3;rw[qY.o];exact⟨_,by rw[fV.o];rfl,ah.o,Ai.nil _ _⟩
def Kc(B g b:Nat)(nv:Value)(i:Nat)(ms:List Nd)(w:World)(r:Ending)(w':World):Prop:=
 ∃nv',r= .returned (.int .i64 (i:Int))/\KG g b nv nv' w w'/\GrP B g b w' ms nv'
theorem Gi(B g b:Nat)(w:World)(ns:List Nd)(nv:Value)(h:GrP B g b w ns nv)(t:List UInt8)(e:Ex)(n i:Nat)(ms:List Nd)(hp:EJ t=(some e,n,0))(ha:AC ns e=(i,ms))(hg:e.Good)(hsz:e.size<=200)(jw:e.depth<=40)(br:ns.length+e.size<=4096)(hm:BT w):
  Calls Tryz.prog 90 #[.pointer (some ⟨g,0,none⟩),str t] w (Kc B g b nv i ms w):=by
 have HG:=J h;have HM:=J hm;have HP:=J (NX w t hm);unfold O5 at HP;rw[hp]at HP;have sj:=J (fun W v (hgr:GrP B g b W ns nv) hv hmm=>Rl B g b W ns nv v e hgr hv hg hsz jw hmm br);unfold PF at sj;rw[ha]at sj;unfold Kc;clear h hm hp ha hg hsz jw br;go_enter Tryz.func90,Tryz.ntmps90;go_wp2_with fail;refine HP.o.mono ?_
 rintro r w1 ⟨v1,rfl,hx,hr⟩;have HX:=J hx;have HF:=J (CS.new hr HG.o);have f9:=J (HG.o.keep hx);have bJ:=J (sj.o w1 v1 f9.o (CS.new hr HG.o) (HM.o.ext hx));obtain⟨A1,c1,rfl⟩:=hr.shape;clear hx hr HP HF;go_wp2_with fail;refine bJ.o.mono ?_
 rintro r w2 ⟨nv2,rfl,hk,ks⟩;have HK:=J ((KG.of_ext HX.o).trans hk);have du:=J ks;clear hk ks bJ sj;go_wp2_with fail;go_ret;exact⟨nv2,rfl,HK.o,du.o⟩
def O6(ns:List Nd)(w:World)(e:Ending)(w':World):Prop:=∃g b nv,e= .returned (.pointer (some ⟨g,0,none⟩))/\GrP w.heap.size g b w' ns nv/\Ext w w'
theorem Ow(B gr:Nat)(w:World)(ns:List Nd)(rv:Value)(h:GrR B gr w ns rv)(hm:BT w):Calls Tryz.prog 32 #[.pointer (some ⟨gr,0,none⟩)] w (O6 ns w):=by
 have mj:=J (QR _ w _ ns h.row h.ok h.few hm);obtain⟨A,c,rfl⟩:=h.row.shape;have k0:=h.blk.oneG;unfold J7 at mj;unfold O6;clear h hm;go_enter Tryz.func32,Tryz.ntmps32;go_wp2_with fail;refine mj.o.mono ?_
 rintro e w2 ⟨g,b,nv,rfl,hg,hx⟩;have HG:=J hg;have HX:=J hx;clear hg hx mj k0;go_wp2_with fail;go_ret;exact⟨g,b,nv,rfl,HG.o,HX.o⟩
structure O2 (B g b gr:Nat) (w:World) (n1 n2:List Nd) (nv rv:Value):Prop where
 p:GrP B g b w n1 nv
 r:GrR B gr w n2 rv
 ap:∀j,nv.ownBlock=some j->rv.ownBlock≠some j
theorem MJ{w:World}{b:Nat}{ns:List Nd}(h:Dq w b ns):∃es cl,w.heap[b]? =some (.map es cl):=by
 obtain⟨es,cl,hb,_⟩:=h;exact⟨es,cl,hb⟩
section
variable {B C g b gr:Nat} {w w':World} {n1 n2 m1:List Nd} {nv rv nv' ev:Value} {env:Env}
theorem O2.prog(h:O2 B g b gr w n1 n2 nv rv)(hk:KG g b nv nv' w w')(hp:GrP B g b w' m1 nv'):O2 B g b gr w' m1 n2 nv' rv:=by
 obtain⟨es,cl,zo⟩:=MJ h.p.map;refine⟨hp,⟨(hk.block gr h.r.lt (JV h.r.blk h.p.blk (by decide)) (En h.r.blk zo) (Eg h.p.row h.r.blk (by decide))).trans h.r.blk,AD h.r.row (fun k hk2=>hk.block k (Aj h.r.row hk2) (fun e=>Eg h.r.row h.p.blk (by decide) (e ▸ hk2)) (fun e=>Fb h.r.row zo (e ▸ hk2)) (fun e=>h.ap k e hk2)),h.r.lo,h.r.ok,h.r.few⟩,fun j hj hr=> ?_⟩;rcases hk.move j hj with h1|h1
 ·exact h.ap j h1 hr
 ·have:=Aj h.r.row hr;omega
theorem O2.keep(h:O2 B g b gr w n1 n2 nv rv)(hx:Ext w w'):O2 B g b gr w' n1 n2 nv rv:=⟨h.p.keep hx,h.r.keep hx,h.ap⟩
theorem BG.prog(he:BG C w ev env)(h:GrP B g b w n1 nv)(hk:KG g b nv nv' w w'):BG C w' ev env:=by
 obtain⟨es,cl,zo⟩:=MJ h.map;exact he.at (fun k hk2=>hk.block k (Aj he hk2) (fun e=>Eg he h.blk (by decide) (e ▸ hk2)) (fun e=>Fb he zo (e ▸ hk2)) (Jc he h.row (by decide) hk2))
end
structure J8 (w0:World) (g b gr:Nat) (ev:Value) (env:Env) (w:World) (n1 n2:List Nd) (nv rv:Value):Prop where
 two:O2 w0.heap.size g b gr w n1 n2 nv rv
 ow:BG w0.heap.size w ev env
 mx:BT w
 ex:Ext w0 w
section
variable {w0 w w':World} {g b gr:Nat} {ev nv rv nv':Value} {env:Env} {n1 n2 m1:List Nd}
theorem J8.prog(h:J8 w0 g b gr ev env w n1 n2 nv rv)(hk:KG g b nv nv' w w')(hp:GrP w0.heap.size g b w' m1 nv'):J8 w0 g b gr ev env w' m1 n2 nv' rv:=
 ⟨h.two.prog hk hp,h.ow.prog h.two.p hk,h.mx.below (hk.below h.two.p) h.two.p.low,h.ex.more (hk.below h.two.p)⟩
theorem J8.keep(h:J8 w0 g b gr ev env w n1 n2 nv rv)(hx:Ext w w'):J8 w0 g b gr ev env w' n1 n2 nv rv:=
 ⟨h.two.keep hx,h.ow.ext hx,h.mx.ext hx,h.ex.trans hx⟩
end
def Snd(w:World)(e:Ending)(w':World):Prop:=∃g b gr ns nv rv ev env d,e= .returned (.tuple #[.pointer (some ⟨g,0,none⟩),.pointer (some ⟨gr,0,none⟩),ev,.bool d])/\J8 w g b gr ev env w' ns ns nv rv/\ns.length<=75/\env.length<=5/\TxE env/\(d=true↔Bv ns env)
theorem BT.low{w:World}(h:BT w):0<w.heap.size:=by
 obtain⟨m,h⟩:=h;rcases qam 0 w.heap.size with h1|h1
 ·exact h1
 ·unfold World.cell? at h;simp only at h;rw[qba h1]at h;cases h
theorem Md(w:World)(v u:Value)(l m:List Int)(hl:D1 w v l)(hm:D1 w u m)(gZ:l.length<=1000000)(ZW:m.length<=1000000)(gY:BT w):
  Calls Tryz.prog 36 #[v,u] w (Snd w):=by
 have YT:=J (Om w v l hl gZ);have up:=J gY;have HAM:=J hm;obtain⟨A0,c0,rfl,xb,xa,wZ⟩:=hl.open;obtain⟨A1,c1,rfl,dW,nB,eT⟩:=hm.open;unfold Snd;clear hl hm xb xa wZ dW nB eT gY;go_enter Tryz.func36,Tryz.ntmps36;go_wp2_with fail;refine YT.o.mono ?_
 rintro e w1 ⟨gr,ns,rv,rfl,uX,iY,ar⟩;have ah:=J ar;have f9:=J uX;have gM:=J iY;have yP:=J (Sq (w.heap.size+1) gr w1 ns rv uX _ m (HAM.o.ext ar) ZW);unfold LY at yP;clear ar uX iY YT;go_wp2_with fail;refine yP.o.mono ?_
 rintro e w2 ⟨ev,env,rfl,bN,he5,dy,al⟩;have am:=J al;have eF:=J bN;have vl:=J he5;have fb:=J dy;have du:=J (f9.o.keep al);have sg:=J (Ow _ gr w2 ns rv (f9.o.keep al) (up.o.ext (ah.o.trans al)));obtain⟨A2,c2,rfl⟩:=bN.shape;have dR:Hid (env.length<=100000):=J (by omega);generalize hme:env.length=me at *;have gO:=J hme;unfold O6 at sg;clear al bN he5 dy yP hme;go_wp2_with fail;refine sg.o.mono ?_
 rintro e w3 ⟨g,b,nv,rfl,oK,ae⟩;have ag:=J ae;have gz:=J oK;have kH:=J (eF.o.ext ae);have eE:=J (du.o.keep ae);have qa:=J (Ll _ gr w3 ns rv (du.o.keep ae) _ env (eF.o.ext ae).read (by rw[gO.o];exact dR.o) fb.o);unfold D8 at qa;clear ae oK sg;go_wp2_with fail;refine qa.o.mono ?_
 rintro e w4 ⟨d,rfl,hd,aJ⟩;have aD:=J aJ;have HD:=J hd;clear aJ hd qa;go_wp2_with fail;refine bodyPost_ret (v:= .tuple #[.pointer (some ⟨g,0,none⟩),.pointer (some ⟨gr,0,none⟩),.slice A2 me c2,.bool d]) (by simp[results,Tryz.results36,go_sem]) rfl ?_
 have fa:=up.o.low;have dU:=ah.o.size;have cn:=am.o.size;have pU:=ag.o.size;have pQ:=(ah.o.trans am.o).trans (ag.o.trans aD.o);refine⟨g,b,gr,ns,nv,rv,_,env,d,rfl,⟨⟨?_,?_,?_⟩,(kH.o.ext aD.o).mono dU,up.o.ext pQ,pQ⟩,gM.o,by rw[gO.o];exact vl.o,fb.o,HD.o⟩
 ·have q:=gz.o.keep aD.o;exact⟨q.blk,q.row.mono (by omega),q.map,qaf (by omega) q.lo,qaf (by omega) q.lo2,q.ok,q.few,fa⟩
 ·have q:=eE.o.keep aD.o;exact⟨q.blk,q.row.mono (by omega),by have:=q.lo;omega,q.ok,q.few⟩
 ·intro j hj hr;have k1:=Ay gz.o.row j hj;have k2:=Aj du.o.row hr;omega
end Big
end Go.Proofs.YtkoaogkknnelaaaGreatDoor
