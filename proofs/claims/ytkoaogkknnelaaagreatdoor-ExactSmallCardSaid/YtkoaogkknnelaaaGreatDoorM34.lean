import Derived.Test.YtkoaogkknnelaaaGreatDoorM33
import Derived.Test.YtkoaogkknnelaaaGreatDoorM32
set_option linter.unusedVariables false
set_option linter.unusedSimpArgs false
set_option maxHeartbeats 8000000
set_option maxRecDepth 100000
namespace Go.Proofs.YtkoaogkknnelaaaGreatDoor
namespace Big
open Lib (hid)
theorem AH.load{ns:List Nd}(h:AH ns){i:Nat}(hi:i<ns.length):Bo (ns.take i) ns[i]=(i,ns.take (i+1)):=by
 have ma:ns[i]∉ns.take i:=by
  intro hm;obtain⟨j,hj,he⟩:=List.getElem_of_mem hm;rw[List.length_take]at hj;rw[List.getElem_take]at he;have:=Kw h.1 (by omega) hi he;omega
 unfold Bo;rw[if_neg ma,List.length_take,Nat.min_eq_left (by omega),List.take_append_getElem hi]
theorem AH.take{ns:List Nd}(h:AH ns)(i:Nat):AH (ns.take i):=h.pre (List.take_prefix i ns)
theorem Cw.plain{i:Nat}{x:Nd}(h:Cw i x):Az x=true:=by
 rcases h with ⟨k,t,rfl,ho⟩|⟨k,n,j,rfl,ho,hj⟩|⟨k,j,q,rfl,hk,hj,hq⟩
 ·have hk:1<=k/\k<=4:=by rcases ho with ⟨h,_⟩|⟨h,_⟩|⟨h,_⟩<;>omega
  unfold Az Ch B5;rw[if_neg (c:=(k:Int)=10) (by omega)];rcases ho with ⟨rfl,h,_⟩|⟨rfl,h⟩|⟨h,rfl⟩
  ·simp[h]
  ·simp[h]
  ·rw[if_neg (by simp only;omega),if_neg (by simp only;omega)];rfl
 ·obtain⟨h1,h2,h3,h4⟩:=ho;unfold Az Ch B5;rw[if_neg (by simp only;omega),if_neg (by simp only;omega)];by_cases hk:k=10
  ·subst hk;simp[h3,h4]
  ·rw[if_neg (by simp only;omega)];simp[h2 hk]
 ·unfold Az Ch B5;rw[if_neg (by simp only;omega),if_neg (by simp only;omega),if_neg (by simp only;omega)];rfl
theorem Lc{x:Nd}{l:List Nd}{i:Nat}(hi:i<l.length)(hx:l[i]=x)(h:∀j (hj:j<l.length),j<i->l[j]≠x):Cv x l=i:=by
 induction l generalizing i with
 |nil=>simp at hi
 |cons y l ih=>
  rw[Fh];cases i with
  |zero=>
   simp only[List.getElem_cons_zero]at hx;rw[if_pos hx]
  |succ i=>
   have h0:=h 0 (by simp) (by omega);simp only[List.getElem_cons_zero]at h0;rw[if_neg h0,ih (by simpa using hi) (by simpa using hx) (fun j hj xi=>by
    have:=h (j+1) (by simpa using hj) (by omega)
    simpa using this)]
open Go.RowKit
structure GrR (B g:Nat) (w:World) (ns:List Nd) (rv:Value):Prop where
 blk:Blk w g 71 #[rv]
 row:AU B w rv ns
 lo:B<=g
 ok:AH ns
 few:ns.length<=4096
theorem GrR.lt{B g:Nat}{w:World}{ns:List Nd}{rv:Value}(h:GrR B g w ns rv):g<w.heap.size:=h.blk.lt
theorem GrR.keep{B g:Nat}{w w':World}{ns:List Nd}{rv:Value}(h:GrR B g w ns rv)(hx:Ext w w'):GrR B g w' ns rv:=
 ⟨h.blk.ext hx,h.row.ext hx,h.lo,h.ok,h.few⟩
theorem GrR.apart2{B g:Nat}{w:World}{ns:List Nd}{rv:Value}(h:GrR B g w ns rv):rv.ownBlock≠some g:=by
 intro e;have hb:=h.blk;have hr:=h.row;unfold AU at hr;unfold Blk at hb;rcases hr.2 with ⟨rfl,_⟩|⟨q,cap,cur,rfl,_,hh,_⟩
 ·cases e
 ·simp only[Value.ownBlock,Option.some.injEq]at e;subst e;rw[hb]at hh;injection hh with hh
  injection hh with _ hh _
  exact absurd hh (by decide)
theorem KG.belowR{B g:Nat}{n1 n2:Value}{w w':World}{ns:List Nd}(h:KG g g n1 n2 w w')(hr:GrR B g w ns n1):Below B w w':=
 ⟨h.os,h.tape,h.output,h.size,fun k hk=>by
  have h1:=hr.blk.lt;have h2:=hr.lo;exact h.block k (by omega) (by omega) (by omega) (fun e=>by have:=AW hr.row k e;omega)⟩
theorem Blk.oneG{w:World}{g:Nat}{t:TypeId}{a:Value}(h:Blk w g t #[a]):w.cell? ⟨g,0,none⟩=some a/\w.frozen? ⟨g,0,none⟩=false/\g<w.heap.size:=
 ⟨h.cell 0,h.frozen 0,h.lt⟩
theorem N9(w:World)(k a b n:Int)(s:ByteArray)(hk:Ay k=0):
  Calls Tryz.prog 85 #[.agg #[.int .i64 k,.int .i64 a,.int .i64 b,.int .i64 n,.string s]] w fun e w'=>e= .returned (.slice none 0 0)/\Ext w w':=by
 have HO:=hid (fun W=>BB W k);rw[hk]at HO;clear hk;go_enter Tryz.func85,Tryz.ntmps85;go_wp2_with fail;refine(HO.out _).mono ?_
 rintro e w1 ⟨rfl,rfl⟩;go_wp2_with fail;go_ret;exact⟨rfl,(Ext.refl w).alloc _⟩
theorem SE(w:World)(k a b n:Int)(s:ByteArray)(hk:Ay k=1):
  Calls Tryz.prog 85 #[.agg #[.int .i64 k,.int .i64 a,.int .i64 b,.int .i64 n,.string s]] w fun e w'=>∃b,e= .returned (.slice (some ⟨b,0,none⟩) 1 1)/\w'.cell? ⟨b,0,none⟩=some (.int .i64 a)/\w.heap.size<=b/\b<w'.heap.size/\Ext w w':=by
 have HO:=hid (fun W=>BB W k);rw[hk]at HO;clear hk;go_enter Tryz.func85,Tryz.ntmps85;go_wp2_with fail;refine(HO.out _).mono ?_
 rintro e w1 ⟨rfl,rfl⟩;go_wp2_with fail;go_ret;exact⟨_,rfl,C2 _ _ _ _ 0,by simp,by simp,((Ext.refl w).alloc _).alloc _⟩
theorem Qy(w:World)(k a b n:Int)(s:ByteArray)(hk:Ay k=2):
  Calls Tryz.prog 85 #[.agg #[.int .i64 k,.int .i64 a,.int .i64 b,.int .i64 n,.string s]] w fun e w'=>∃c,e= .returned (.slice (some ⟨c,0,none⟩) 2 2)/\w'.cell? ⟨c,0,none⟩=some (.int .i64 a)/\w'.cell? ⟨c,1,none⟩=some (.int .i64 b)/\w.heap.size<=c/\c<w'.heap.size/\Ext w w':=by
 have HO:=hid (fun W=>BB W k);rw[hk]at HO;clear hk;go_enter Tryz.func85,Tryz.ntmps85;go_wp2_with fail;refine(HO.out _).mono ?_
 rintro e w1 ⟨rfl,rfl⟩;go_wp2_with fail;go_ret;exact⟨_,rfl,C2 _ _ _ _ 0,C2 _ _ _ _ 1,by simp,by simp,((Ext.refl w).alloc _).alloc _⟩
def M0(zs:List Nat)(w:World)(e:Ending)(w':World):Prop:=
 ∃A c,e= .returned (.slice A zs.length c)/\Ext w w'/\(0<zs.length->∃b,A=some ⟨b,0,none⟩/\w.heap.size<=b/\b<w'.heap.size/\∀i (X7:i<zs.length),w'.cell? ⟨b,i,none⟩=some (.int .i64 ((zs.getD i 0:Nat):Int)))
theorem CG{k:Nat}{t:Tx}(h:JW k t):BF ⟨(k:Int),0,0,0,t⟩=[]:=by
 unfold BF;rw[if_pos (by rcases h with ⟨h,_⟩|⟨h,_⟩|⟨h,_⟩<;>simp only<;>omega)]
theorem Cs{k:Nat}{n:Int}{j:Nat}(h:U3 k n):BF ⟨(k:Int),(j:Int),0,n,[]⟩=[j]:=by
 unfold BF;have:=h.1;rw[if_neg (by simp only;omega),if_neg (by simp only;omega)];rfl
theorem BP{k j q:Nat}(hk:6<=k/\k<=9):BF ⟨(k:Int),(j:Int),(q:Int),0,[]⟩=[j,q]:=by
 unfold BF;rw[if_neg (by simp only;omega),if_pos (by simp only;omega)];rfl
theorem Cw.args_lt{i:Nat}{x:Nd}(h:Cw i x):∀a∈BF x,a<i:=by
 rcases h with ⟨k,t,rfl,ho⟩|⟨k,n,j,rfl,ho,hj⟩|⟨k,j,q,rfl,hk,hj,hq⟩
 ·rw[CG ho];intro a ha;cases ha
 ·rw[Cs ho];intro a ha;simp only[List.mem_singleton]at ha;omega
 ·rw[BP hk];intro a ha;simp only[List.mem_cons,List.not_mem_nil,or_false]at ha;omega
theorem Cw.args_len{i:Nat}{x:Nd}(h:Cw i x):(BF x).length<=2:=by
 rcases h with ⟨k,t,rfl,ho⟩|⟨k,n,j,rfl,ho,hj⟩|⟨k,j,q,rfl,hk,hj,hq⟩
 ·rw[CG ho];simp
 ·rw[Cs ho];simp
 ·rw[BP hk];simp
theorem Cw.oper{i:Nat}{x:Nd}(h:Cw i x):Ay x.kind=((BF x).length:Int):=by
 rcases h with ⟨k,t,rfl,ho⟩|⟨k,n,j,rfl,ho,hj⟩|⟨k,j,q,rfl,hk,hj,hq⟩
 ·rw[CG ho];have hk:1<=k/\k<=4:=by rcases ho with ⟨h,_⟩|⟨h,_⟩|⟨h,_⟩<;>omega
  unfold Ay;rw[if_neg (by simp only;omega),if_pos (by simp only;omega)];rfl
 ·rw[Cs ho];have:=ho.1;unfold Ay;rw[if_neg (by simp only;omega),if_neg (by simp only;omega),if_neg (by simp only;omega)];rfl
 ·rw[BP hk];unfold Ay;rw[if_neg (by simp only;omega),if_neg (by simp only;omega),if_pos (by simp only;omega)];rfl
theorem Ko(w:World)(x:Nd){m:Nat}(h:Cw m x):Calls Tryz.prog 85 #[ndV x] w (M0 (BF x) w):=by
 have ho:=h.oper;rcases h with ⟨k,t,rfl,hk⟩|⟨k,n,j,rfl,hk,hj⟩|⟨k,j,q,rfl,hk,hj,hq⟩
 ·rw[CG hk]at ho ⊢;refine(N9 w k 0 0 0 ⟨(t:List UInt8).toArray⟩ ho).mono ?_
  rintro e w' ⟨rfl,hx⟩;exact⟨_,_,rfl,hx,fun hp=>absurd hp (by decide)⟩
 ·rw[Cs hk]at ho ⊢;refine(SE w k j 0 n ⟨([]:List UInt8).toArray⟩ ho).mono ?_
  rintro e w' ⟨b,rfl,hc,h1,h2,hx⟩;refine⟨_,_,rfl,hx,fun _=>⟨b,rfl,h1,h2,fun i hi=> ?_⟩⟩;simp only[List.length_singleton]at hi;obtain rfl:i=0:=by omega
  exact hc
 ·rw[BP hk]at ho ⊢;refine(Qy w k j q 0 ⟨([]:List UInt8).toArray⟩ ho).mono ?_
  rintro e w' ⟨b,rfl,hc,cW,h1,h2,hx⟩;refine⟨_,_,rfl,hx,fun _=>⟨b,rfl,h1,h2,fun i hi=> ?_⟩⟩;simp only[List.length_cons,List.length_nil]at hi;obtain rfl|rfl:i=0\/i=1:=by omega
  ·exact hc
  ·exact cW
theorem OF(B g:Nat)(w:World)(ns:List Nd)(rv:Value)(h:GrR B g w ns rv)(i:Int):
  Calls Tryz.prog 89 #[.pointer (some ⟨g,0,none⟩),.int .i64 i] w fun e w'=>e= .returned (.bool (decide (0<=i/\i<(ns.length:Int))))/\Ext w w':=by
 obtain⟨k0,_,hg⟩:=h.blk.oneG;obtain⟨A2,c2,rfl⟩:=h.row.shape;clear h;by_cases h0:0<=i
 ·by_cases h1:i<(ns.length:Int)
  ·have hd:decide (0<=i/\i<(ns.length:Int))=true:=decide_eq_true ⟨h0,h1⟩;rw[hd];clear hd;go_enter Tryz.func89,Tryz.ntmps89;go_wp2_with fail;go_ret;exact⟨rfl,Ext.refl w⟩
  ·have hd:decide (0<=i/\i<(ns.length:Int))=false:=decide_eq_false (fun h=>h1 h.2);rw[hd];clear hd;go_enter Tryz.func89,Tryz.ntmps89;go_wp2_with fail;go_ret;exact⟨rfl,Ext.refl w⟩
 ·have hd:decide (0<=i/\i<(ns.length:Int))=false:=decide_eq_false (fun h=>h0 h.1);rw[hd];clear hd;go_enter Tryz.func89,Tryz.ntmps89;go_wp2_with fail;go_ret;exact⟨rfl,Ext.refl w⟩
theorem Sl(w:World)(x:Nd)(i:Nat)(h:Cw i x)(hm:Ce w)(P:Value)(m:Nat)(T:List X2)(hat:TU w P m T)(xj:i<=m)(hT:∀x∈T,x.Ok):
  Calls Tryz.prog 139 #[ndV x,.func (.func 140) #[] #[P]] w (CU (Bf x (T.getD x.a.toNat X2.O) (T.getD x.b.toNat X2.O)) w):=by
 have hg:∀j,(T.getD j X2.O).Ok:=fun j=>by
  rw[List.getD_eq_getElem?_getD];cases hj:T[j]? with
  |none=>exact X2.O_ok
  |some y=>exact hT y (List.mem_of_getElem? hj)
 rcases h with ⟨k,t,rfl,⟨rfl,h1,_⟩|⟨rfl,h1⟩|⟨rfl|rfl,rfl⟩⟩|⟨k,n,j,rfl,⟨h1,h2,h3,h4⟩,hj⟩|⟨k,j,q,rfl,hk,hj,hq⟩
 ·have e:∀x y,Bf ⟨((1:Nat):Int),0,0,0,t⟩ x y=AJ (Hl t) (Hq t):=fun x y=>by
   unfold Bf;rw[if_pos (show ((1:Nat):Int)<5 by decide),if_pos (show ((1:Nat):Int)=1 by decide)]
  rw[e];exact N2 w t h1 hm P
 ·have e:∀x y,Bf ⟨((2:Nat):Int),0,0,0,t⟩ x y=X2.O:=fun x y=>by
   unfold Bf;rw[if_pos (show ((2:Nat):Int)<5 by decide),if_neg (show ¬((2:Nat):Int)=1 by decide)]
  rw[e];exact N3 w _ (.inl rfl) t P
 ·have e:∀x y,Bf ⟨((3:Nat):Int),0,0,0,[]⟩ x y=X2.O:=fun x y=>by
   unfold Bf;rw[if_pos (show ((3:Nat):Int)<5 by decide),if_neg (show ¬((3:Nat):Int)=1 by decide)]
  rw[e];exact N3 w _ (.inr (.inl rfl)) [] P
 ·have e:∀x y,Bf ⟨((4:Nat):Int),0,0,0,[]⟩ x y=X2.O:=fun x y=>by
   unfold Bf;rw[if_pos (show ((4:Nat):Int)<5 by decide),if_neg (show ¬((4:Nat):Int)=1 by decide)]
  rw[e];exact N3 w _ (.inr (.inr rfl)) [] P
 ·simp only[Int.toNat_natCast];exact Ty w (k:Int) j n [] (by omega) h3 h4 (fun e=>h2 (by omega)) P m T hat (by omega) _ _ rfl (hg _)
 ·simp only[Int.toNat_natCast];have hk:k=6\/k=7\/k=8\/k=9:=by omega
  rcases hk with rfl|rfl|rfl|rfl
  ·exact Lq w _ (.inl rfl) j q [] P m T hat (by omega) (by omega) _ _ rfl rfl (hg _) (hg _)
  ·exact Lq w _ (.inr (.inl rfl)) j q [] P m T hat (by omega) (by omega) _ _ rfl rfl (hg _) (hg _)
  ·exact Lq w _ (.inr (.inr rfl)) j q [] P m T hat (by omega) (by omega) _ _ rfl rfl (hg _) (hg _)
  ·exact TA w j q [] P m T hat (by omega) (by omega) _ _ rfl rfl (hg _) (hg _)
theorem Sa:(Tryz.prog.info? 136).map (fun i=>(i.zero,i.size,i.bytes))=some (some (.agg #[.bool false,.slice none 0 0,.slice none 0 0,.int .i64 0]),4,64):=by kernel_rfl
theorem Pl(n:Nat)(hn:n<=1000000)(W:World):(Instr.makeSlice 137 (.int .i64 (n:Int)) (.int .i64 (n:Int))).run Tryz.prog W=
  .ok (.slice (some ⟨W.heap.size,0,none⟩) n n) (W.alloc (.cells (E6 n) 136)):=by
 obtain⟨i0,hi,aE,hz1,ba⟩:=info_parts Sa;have hr:=run_make (P:=Tryz.prog) W 137 136 i0 _ Tryz.underlying137 hi aE .i64 .i64 (n:Int) (n:Int) (by omega) (Int.le_refl _) (by rw[ba];omega) (by omega);have hm:madeCells (Value.cells (.agg #[.bool false,.slice none 0 0,.slice none 0 0,.int .i64 0])) (n*4)=E6 n:=by
  apply Array.ext
  ·simp[madeCells,EF]
  ·intro i h1 h2;rw[EF]at h2;have h3:=Et n (i / 4) (i % 4) (by omega) (by omega);rw[show i / 4*4+i % 4=i by omega,Array.getElem?_eq_getElem (by rw[EF];exact h2)]at h3;have h4:i % 4=0\/i % 4=1\/i % 4=2\/i % 4=3:=by omega
   simp only[madeCells,Value.cells,Array.getElem_map,Array.getElem_range];rcases h4 with h4|h4|h4|h4<;>(rw[h4]at h3;simp only[List.getElem?_cons_zero,List.getElem?_cons_succ,Option.some.injEq]at h3;rw[h3];simp[h4])
 rw[hz1,Int.toNat_natCast,hm]at hr;exact hr
noncomputable def De(R:Nat->Bool)(ns:List Nd)(k:Nat):List X2:=CK R (ns.take k)++List.replicate (ns.length-k) X2.O
theorem Js(R:Nat->Bool)(ns:List Nd)(k:Nat)(hk:k<=ns.length):(De R ns k).length=ns.length:=by
 unfold De;rw[List.length_append,Ds,List.length_take,List.length_replicate];omega
theorem P0(R:Nat->Bool)(ns:List Nd):De R ns 0=List.replicate ns.length X2.O:=by
 unfold De;rw[List.take_zero,Nat.sub_zero];rfl
theorem RR(R:Nat->Bool)(ns:List Nd):De R ns ns.length=CK R ns:=by
 unfold De;rw[List.take_length,Nat.sub_self,List.replicate_zero,List.append_nil]
theorem Tg(R:Nat->Bool)(ns:List Nd)(k:Nat):∀x∈De R ns k,x.Ok:=by
 intro x hx;unfold De at hx;rcases List.mem_append.1 hx with h|h
 ·exact SZ R _ x h
 ·rw[(List.mem_replicate.1 h).2];exact X2.O_ok
theorem Jr(R:Nat->Bool)(ns:List Nd)(k:Nat)(hk:k<=ns.length){j:Nat}(hj:j<k):(De R ns k).getD j X2.O=(CK R (ns.take k)).getD j X2.O:=by
 unfold De;exact ET _ _ (by rw[Ds,List.length_take];omega)
theorem RP(R:Nat->Bool)(ns:List Nd)(k:Nat)(hk:k<ns.length)(x:X2):(De R ns k).set k x=CK R (ns.take k)++x::List.replicate (ns.length-(k+1)) X2.O:=by
 have hl:(CK R (ns.take k)).length=k:=by rw[Ds,List.length_take];omega
 unfold De;rw[show ns.length-k=(ns.length-(k+1))+1 by omega,List.replicate_succ,List.set_append_right _ _ (by omega),hl,Nat.sub_self];rfl
theorem RM(R:Nat->Bool)(ns:List Nd)(k:Nat)(hk:k<ns.length)(hR:R k=true){a b:Nat}(ha:a=ns[k].a.toNat)(hb:b=ns[k].b.toNat):(De R ns k).set k (Bf ns[k] ((CK R (ns.take k)).getD a X2.O) ((CK R (ns.take k)).getD b X2.O))=De R ns (k+1):=by
 rw[RP R ns k hk];have hl:(CK R (ns.take k)).length=k:=by rw[Ds,List.length_take];omega
 unfold De;rw[Hc R ns hk];unfold Fa;rw[hl,if_pos hR,ha,hb,List.append_assoc];rfl
theorem Th(R:Nat->Bool)(ns:List Nd)(k:Nat)(hk:k<ns.length)(hR:R k=false):De R ns k=De R ns (k+1):=by
 have hl:(CK R (ns.take k)).length=k:=by rw[Ds,List.length_take];omega
 unfold De;rw[Hc R ns hk];unfold Fa;rw[hl,hR,show ns.length-k=(ns.length-(k+1))+1 by omega,List.replicate_succ,List.append_assoc];rfl
theorem RO(R:Nat->Bool)(ns:List Nd)(k:Nat)(hk:k<ns.length){x:Nd}(hx:Cw k x):Bf x ((De R ns k).getD x.a.toNat X2.O) ((De R ns k).getD x.b.toNat X2.O)=Bf x ((CK R (ns.take k)).getD x.a.toNat X2.O) ((CK R (ns.take k)).getD x.b.toNat X2.O):=by
 rcases hx with ⟨j,t,rfl,ho⟩|⟨j,n,a,rfl,ho,ha⟩|⟨j,a,b,rfl,hj,ha,hb⟩
 ·have:j<5:=by rcases ho with ⟨h,_⟩|⟨h,_⟩|⟨h,_⟩<;>omega
  exact Eu (by simp only;omega) _ _ _ _
 ·have:=ho.1;simp only[Int.toNat_natCast];rw[Jr R ns k (by omega) ha];exact Gl (by simp only;omega) (by simp only;omega) _ _ _
 ·simp only[Int.toNat_natCast];rw[Jr R ns k (by omega) ha,Jr R ns k (by omega) hb]
theorem E5.at{w:World}{c b n:Nat}{T:List X2}(h:E5 w c b T)(hn:n=T.length):w.cell? ⟨c,0,none⟩=some (.slice (some ⟨b,0,none⟩) n n):=by
 rw[hn];exact h.blk.cell 0
theorem GV.at4{w:World}{g:Nat}{T:List X2}(h:GV w g T)(k:Nat)(hk:k<T.length):∃v0 v1 v2 v3,(w.cell? ⟨g,k*4,none⟩=some v0/\w.cell? ⟨g,k*4+1,none⟩=some v1/\w.cell? ⟨g,k*4+2,none⟩=some v2/\w.cell? ⟨g,k*4+3,none⟩=some v3)/\
  w.frozen? ⟨g,k*4,none⟩=false/\w.frozen? ⟨g,k*4+1,none⟩=false/\w.frozen? ⟨g,k*4+2,none⟩=false/\w.frozen? ⟨g,k*4+3,none⟩=false:=by
 obtain⟨cs,h1,h2,h3⟩:=h;obtain⟨⟨A,n,c,A',n',c',q0,q1,q2,_⟩,q3⟩:=h3 k _ (List.getElem?_eq_getElem hk);exact⟨_,_,_,_,⟨q0,q1,q2,q3⟩,h1.frozen _,h1.frozen _,h1.frozen _,h1.frozen _⟩
theorem E5.put{w:World}{c b:Nat}{T:List X2}(h:E5 w c b T)(hne:c≠b){i:Nat}(hi:i<T.length){f:Bool}{A:Option Addr}{n k:Nat}{A':Option Addr}{n' k':Nat}{x:X2}(hx:BG w (.agg #[.bool f,.slice A n k,.slice A' n' k',.int .i64 (x.st:Int)]) x):
  E5 ((((w.setCell ⟨b,i*4,none⟩ (.bool f)).setCell ⟨b,i*4+1,none⟩ (.slice A n k)).setCell ⟨b,i*4+2,none⟩ (.slice A' n' k')).setCell ⟨b,i*4+3,none⟩ (.int .i64 (x.st:Int))) c b (T.set i x):=by
 obtain⟨A1,n1,k1,A2,n2,k2,he,hr⟩:=hx;injection he with he
 injection he with he
 injection he with e1 he
 injection he with e2 he
 injection he with e3 he
 injection e1 with e1
 rw[e1,e2,e3];have h4:=(h.row.set hi hr).1;have hb:=(((h.blk.far (p:=⟨b,i*4,none⟩) hne (.bool (decide (x.p<0)))).far (p:=⟨b,i*4+1,none⟩) hne (.slice A1 n1 k1)).far (p:=⟨b,i*4+2,none⟩) hne (.slice A2 n2 k2)).far (p:=⟨b,i*4+3,none⟩) hne (.int .i64 (x.st:Int));exact⟨by rw[List.length_set];exact hb,h4⟩
def IT(R:Nat->Bool)(ns:List Nd)(w:World)(e:Ending)(w':World):Prop:=∃b,e= .returned (.slice (some ⟨b,0,none⟩) ns.length ns.length)/\GV w' b (CK R ns)/\Ext w w'
theorem UA(fn:Nat)(vO:Array Value)(hc:∀args W,(callFunc fn args).run Tryz.prog W= .ok (.enter fn args) W)(w:World)(nv:Value)(ns:List Nd)(h:RNd w nv ns)(hs:AH ns)(hn:ns.length<=4096)(hm:Ce w)(R:Nat->Bool)(hR:∀W,Ext w W->∀i,i<ns.length->Calls Tryz.prog fn (#[.int .i64 (i:Int)]++vO) W fun e w'=>e= .returned (.bool (R i))/\Ext W w'):
  Calls Tryz.prog 81 #[nv,.func (.func fn) #[] vO] w (IT R ns w):=by
 have HM:=hid hm;have HS:=hid hs;have HR:=hid hR;obtain⟨n,hJ⟩:∃n,n=ns.length:=⟨_,rfl⟩;have kh:=hid hJ;have df:=Pl n (by omega);obtain⟨A,c,rfl,lG⟩:=h;have mC:=hid lG;unfold IT;rw[<-hJ]at hn ⊢;clear hs hm hR hJ lG;go_enter Tryz.func81,Tryz.ntmps81;go_upto_region 2 with fail;have ho:E5 ((w.alloc (.cells (E6 n) 136)).alloc (.cells #[.slice (some ⟨w.heap.size,0,none⟩) n n] 137)) (w.heap.size+1) w.heap.size (De R ns 0):=by
  refine⟨?_,?_⟩
  ·have hb:=Blk.new (w.alloc (.cells (E6 n) 136)) 137 #[.slice (some ⟨w.heap.size,0,none⟩) n n];simp only[World.size_alloc]at hb;rw[Js R ns 0 (Nat.zero_le _),<-kh.out];exact hb
  ·rw[P0,<-kh.out];exact GV.zero ((Blk.new w _ _).alloc _)
 have hx:=((Ext.refl w).alloc (.cells (E6 n) 136)).alloc (.cells #[.slice (some ⟨w.heap.size,0,none⟩) n n] 137);generalize (w.alloc (.cells (E6 n) 136)).alloc (.cells #[.slice (some ⟨w.heap.size,0,none⟩) n n] 137)=w1 at *;have HO:=hid ho;have HX:=hid hx;clear ho hx df;go_wp2_with fail;go_loopw [13] (fun s13 wr=>∃k:Nat,k<=n/\s13= .int .i64 (k:Int)/\E5 wr (w.heap.size+1) w.heap.size (De R ns k)/\Ext w wr) (fun s13 _=>n-(intOf s13).toNat)
 case atStart=>exact⟨0,Nat.zero_le _,rfl,HO.out,HX.out⟩
 case round=>
  clear HO HX;obtain⟨k,hk,rfl,ho,hx⟩:=hrel;by_cases hlt:k<n
  ·have jk:k<ns.length:=by rw[<-kh.out];exact hlt
   have uU:(De R ns k).length=n:=(Js R ns k (by omega)).trans kh.out.symm;have az:=HS.out.2 k _ (List.getElem?_eq_getElem jk);have HW:=hid (fun W hx=>HR.out W hx k jk);have fz:=hid (fun W (ho:E5 W (w.heap.size+1) w.heap.size (De R ns k)) hm=>Sl W ns[k] k az hm (.pointer (some ⟨w.heap.size+1,0,none⟩)) k (De R ns k) (fun W' hx j hj=>Uz W' (w.heap.size+1) w.heap.size (De R ns k) (ho.ext hx) j (by omega) (by omega)) (Nat.le_refl _) (Tg R ns k));unfold CU at fz;rw[RO R ns k jk az]at fz;have wt:Hid (n=(De R ns k).length):=hid uU.symm;have lp:Hid (k<(De R ns k).length):=hid (by rw[uU];exact hlt);have VD:=hid (fun hr=>RM R ns k jk hr (a:=ns[k].a.toNat) (b:=ns[k].b.toNat) rfl rfl);have co:=hid (Th R ns k jk);have HX:=hid hx;have HO:=hid ho;obtain⟨gb,o,rfl,fD,hc⟩:=mC.out (by omega);obtain⟨p0,p1,p2,p3,p4⟩:=hc k jk;rw[<-hx.cell fD]at p0 p1 p2 p3 p4;have aQ:gb<wr.heap.size:=Nat.lt_of_lt_of_le fD hx.size;have mM:(0:Int)<=(k:Int):=by omega
   have tX:(k:Int)<(n:Int):=by omega
   have wY:IntKind.i64.wrap ((k:Int)+1)=(k:Int)+1:=IntWalk.i64_in _ (by omega);generalize Bf ns[k] ((CK R (ns.take k)).getD ns[k].a.toNat X2.O) ((CK R (ns.take k)).getD ns[k].b.toNat X2.O)=X at *;generalize ns[k]=x at *;clear hc az uU hx ho;obtain⟨y0,y1,y2,y3,y4⟩:=x;simp only[ndV]at fz;simp only at p0 p1 p2 p3 p4;obtain⟨s,hst⟩:∃s:ByteArray,str y4= .string s:=⟨_,rfl⟩;rw[hst]at p4 fz;clear hst;have HN:=hid (Blk.new wr 95 #[.int .i64 y0,.int .i64 y1,.int .i64 y2,.int .i64 y3,.string s]);have bx:=(Ext.refl wr).alloc (.cells #[.int .i64 y0,.int .i64 y1,.int .i64 y2,.int .i64 y3,.string s] 95);go_upto_region 5 with fail;generalize wr.alloc (.cells #[.int .i64 y0,.int .i64 y1,.int .i64 y2,.int .i64 y3,.string s] 95)=w7 at *;have HX:=hid (HX.out.trans bx);have HO:=hid (HO.out.ext bx);generalize wr.heap.size=nb at *;clear bx p0 p1 p2 p3 p4;go_wp2_with fail;refine(HW.out w7 HX.out).mono ?_
   rintro e w8 ⟨rfl,bD⟩;have HX:=hid (HX.out.trans bD);have HO:=hid (HO.out.ext bD);have HN:=hid (HN.out.ext bD);clear bD;cases hRk:R k with
   |true=>
    have HYE:=hid (VD.out hRk);clear hRk;have an:=HN.out.five;have hc0:=HO.out.at wt.out;obtain⟨v0,v1,v2,v3,⟨r0,r1,r2,r3⟩,g0,g1,g2,g3⟩:=HO.out.row.at4 k lp.out;go_upto_region 6 with fail
    go_region_law (go_simp;go_at_call 139;refine(fz.out _ (HO.out.ext (Ext.refl _).drew) (HM.out.ext (HX.out.trans (Ext.refl _).drew))).mono ?_;rintro e w9 ⟨v9,rfl,gL,hx⟩;obtain⟨f9,A9,n9,k9,A8,n8,k8,rfl⟩:=gL.shape;have R9:=hid gL;have HO:=hid (HO.out.ext ((Ext.refl _).drew.trans hx));have HX:=hid (HX.out.trans ((Ext.refl _).drew.trans hx));have HN:=hid (HN.out.ext ((Ext.refl _).drew.trans hx));clear hx gL;clear an hc0 r0 r1 r2 r3 g0 g1 g2 g3;have an:=HN.out.five;have hc0:=HO.out.at wt.out;obtain⟨v0,v1,v2,v3,⟨r0,r1,r2,r3⟩,g0,g1,g2,g3⟩:=HO.out.row.at4 k lp.out)
    all_goals
     go_wp2_with fail;go_roundw
     case rel=>
      refine⟨k+1,hlt,by go_num,?_,?_⟩
      ·rw[<-HYE.out];exact HO.out.put (by omega) lp.out R9.out
      ·exact(((HX.out.setCell (p:=⟨w.heap.size,k*4,none⟩) (Nat.le_refl _) _).setCell (p:=⟨w.heap.size,k*4+1,none⟩) (Nat.le_refl _) _).setCell (p:=⟨w.heap.size,k*4+2,none⟩) (Nat.le_refl _) _).setCell (p:=⟨w.heap.size,k*4+3,none⟩) (Nat.le_refl _) _
     case measure=>simp[intOf];omega
   |false=>
    have ma:=co.out hRk;rw[ma]at HO;have HO:=hid HO.out;clear ma;go_wp2_with fail;go_roundw
    case rel=>exact⟨k+1,hlt,by go_num,HO.out,HX.out⟩
    case measure=>simp[intOf];omega
  ·obtain rfl:k=n:=by omega
   have HE:Hid (GV wr w.heap.size (CK R ns)/\Ext w wr):=hid ⟨by rw[<-RR,<-kh.out];exact ho.row,hx⟩;have HC:=hid (ho.at (n:=k) (by rw[Js R ns k (by rw[<-kh.out];exact Nat.le_refl _)];exact kh.out));have js:=HC.out;clear ho hx;go_wp2_with fail;go_ret;exact⟨_,rfl,HE.out⟩
theorem U2(w:World)(nv:Value)(ns:List Nd)(h:RNd w nv ns)(hs:AH ns)(hn:ns.length<=4096)(hm:Ce w)(R:Nat->Bool)(Pc:Value)(hR:∀W,Ext w W->∀i,i<ns.length->Calls Tryz.prog 82 #[.int .i64 (i:Int),Pc] W fun e w'=>e= .returned (.bool (R i))/\Ext W w'):
  Calls Tryz.prog 81 #[nv,.func (.func 82) #[] #[Pc]] w (IT R ns w):=UA _ _ (fun _ _=>by simp[callFunc,go_sem,Tryz.func82,Tryz.f82]) w nv ns h hs hn hm R hR
end Big
end Go.Proofs.YtkoaogkknnelaaaGreatDoor
