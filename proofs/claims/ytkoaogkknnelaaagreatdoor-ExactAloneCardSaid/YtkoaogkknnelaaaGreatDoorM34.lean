import Derived.Test.YtkoaogkknnelaaaGreatDoorM33
import Derived.Test.YtkoaogkknnelaaaGreatDoorM32
set_option linter.unusedVariables false
set_option linter.unusedSimpArgs false
set_option maxHeartbeats 8000000
set_option maxRecDepth 100000
namespace Go.Proofs.YtkoaogkknnelaaaGreatDoor
namespace Big
open Lib (hid)
theorem AC.load{ns:List Nd}(h:AC ns){i:Nat}(hi:i<ns.length):Bg (ns.take i) ns[i]=(i,ns.take (i+1)):=by
 have kX:ns[i]∉ns.take i:=by
  intro hm;obtain⟨j,hj,he⟩:=List.getElem_of_mem hm;rw[List.length_take]at hj;rw[List.getElem_take]at he;have:=J5 h.1 (by omega) hi he;omega
 unfold Bg;rw[if_neg kX,List.length_take,Nat.min_eq_left (by omega),List.take_append_getElem hi]
theorem AC.take{ns:List Nd}(h:AC ns)(i:Nat):AC (ns.take i):=h.pre (List.take_prefix i ns)
theorem CL.plain{i:Nat}{x:Nd}(h:CL i x):Ax x=true:=by
 rcases h with ⟨k,t,rfl,ho⟩|⟨k,n,j,rfl,ho,hj⟩|⟨k,j,q,rfl,hk,hj,hq⟩
 ·have hk:1<=k/\k<=4:=by rcases ho with ⟨h,_⟩|⟨h,_⟩|⟨h,_⟩<;>omega
  unfold Ax B8 BT;rw[if_neg (c:=(k:Int)=10) (by omega)];rcases ho with ⟨rfl,h,_⟩|⟨rfl,h⟩|⟨h,rfl⟩
  ·simp[h]
  ·simp[h]
  ·rw[if_neg (by simp only;omega),if_neg (by simp only;omega)];rfl
 ·obtain⟨h1,h2,h3,h4⟩:=ho;unfold Ax B8 BT;rw[if_neg (by simp only;omega),if_neg (by simp only;omega)];by_cases hk:k=10
  ·subst hk;simp[h3,h4]
  ·rw[if_neg (by simp only;omega)];simp[h2 hk]
 ·unfold Ax B8 BT;rw[if_neg (by simp only;omega),if_neg (by simp only;omega),if_neg (by simp only;omega)];rfl
theorem KJ{x:Nd}{l:List Nd}{i:Nat}(hi:i<l.length)(hx:l[i]=x)(h:∀j (hj:j<l.length),j<i->l[j]≠x):Cl x l=i:=by
 induction l generalizing i with
 |nil=>simp at hi
 |cons y l ih=>
  rw[E8];cases i with
  |zero=>
   simp only[List.getElem_cons_zero]at hx;rw[if_pos hx]
  |succ i=>
   have h0:=h 0 (by simp) (by omega);simp only[List.getElem_cons_zero]at h0;rw[if_neg h0,ih (by simpa using hi) (by simpa using hx) (fun j hj vD=>by
    have:=h (j+1) (by simpa using hj) (by omega)
    simpa using this)]
def GC(ns:List Nd)(i:Nat)(l:List Tx):Prop:=Asc l/\∀t,t∈l↔Dg ns i t
theorem GC.uniq{ns:List Nd}{i:Nat}{l m:List Tx}(h:GC ns i l)(h':GC ns i m):l=m:=
 Mu h.1 h'.1 (fun t=>(h.2 t).trans (h'.2 t).symm)
open Go.RowKit
structure GrR (B g:Nat) (w:World) (ns:List Nd) (rv:Value):Prop where
 blk:Blk w g 71 #[rv]
 row:AB B w rv ns
 lo:B<=g
 ok:AC ns
 few:ns.length<=4096
theorem GrR.lt{B g:Nat}{w:World}{ns:List Nd}{rv:Value}(h:GrR B g w ns rv):g<w.heap.size:=h.blk.lt
theorem GrR.keep{B g:Nat}{w w':World}{ns:List Nd}{rv:Value}(h:GrR B g w ns rv)(hx:Ext w w'):GrR B g w' ns rv:=
 ⟨h.blk.ext hx,h.row.ext hx,h.lo,h.ok,h.few⟩
theorem GrR.apart2{B g:Nat}{w:World}{ns:List Nd}{rv:Value}(h:GrR B g w ns rv):rv.ownBlock≠some g:=by
 intro e;have hb:=h.blk;have hr:=h.row;unfold AB at hr;unfold Blk at hb;rcases hr.2 with ⟨rfl,_⟩|⟨q,cap,cur,rfl,_,hh,_⟩
 ·cases e
 ·simp only[Value.ownBlock,Option.some.injEq]at e;subst e;rw[hb]at hh;injection hh with hh
  injection hh with _ hh _
  exact absurd hh (by decide)
theorem KG.belowR{B g:Nat}{n1 n2:Value}{w w':World}{ns:List Nd}(h:KG g g n1 n2 w w')(hr:GrR B g w ns n1):Below B w w':=
 ⟨h.os,h.tape,h.output,h.size,fun k hk=>by
  have h1:=hr.blk.lt;have h2:=hr.lo;exact h.block k (by omega) (by omega) (by omega) (fun e=>by have:=AH hr.row k e;omega)⟩
theorem Blk.oneG{w:World}{g:Nat}{t:TypeId}{a:Value}(h:Blk w g t #[a]):w.cell? ⟨g,0,none⟩=some a/\w.frozen? ⟨g,0,none⟩=false/\g<w.heap.size:=
 ⟨h.cell 0,h.frozen 0,h.lt⟩
theorem CD.newR{B g:Nat}{rv:Value}{w0 w:World}{v:Value}{l ns:List Nd}(h:AB w0.heap.size w v l)(hg:GrR B g w0 ns rv):CD g g rv w v l:=by
 obtain⟨A,c,hv,h1⟩:=h.read;refine⟨A,c,hv,fun hp=> ?_⟩;obtain⟨q,o,rfl,hq,hc⟩:=h1 hp;have ew:=AH h q (by rw[hv];rfl);have h2:=hg.lt;exact⟨q,o,rfl,hq,by omega,by omega,fun e=>by have:=BE hg.row e;omega,hc⟩
theorem NU(w:World)(k a b n:Int)(s:ByteArray)(hk:Aq k=0):
  Calls Tryz.prog 85 #[.agg #[.int .i64 k,.int .i64 a,.int .i64 b,.int .i64 n,.string s]] w fun e w'=>e= .returned (.slice none 0 0)/\Ext w w':=by
 have HO:=hid (fun W=>Bs W k);rw[hk]at HO;clear hk;go_enter Tryz.func85,Tryz.ntmps85;go_wp2_with fail;refine(HO.out _).mono ?_
 rintro e w1 ⟨rfl,rfl⟩;go_wp2_with fail;go_ret;exact⟨rfl,(Ext.refl w).alloc _⟩
theorem Sc(w:World)(k a b n:Int)(s:ByteArray)(hk:Aq k=1):
  Calls Tryz.prog 85 #[.agg #[.int .i64 k,.int .i64 a,.int .i64 b,.int .i64 n,.string s]] w fun e w'=>∃b,e= .returned (.slice (some ⟨b,0,none⟩) 1 1)/\w'.cell? ⟨b,0,none⟩=some (.int .i64 a)/\w.heap.size<=b/\b<w'.heap.size/\Ext w w':=by
 have HO:=hid (fun W=>Bs W k);rw[hk]at HO;clear hk;go_enter Tryz.func85,Tryz.ntmps85;go_wp2_with fail;refine(HO.out _).mono ?_
 rintro e w1 ⟨rfl,rfl⟩;go_wp2_with fail;go_ret;exact⟨_,rfl,CV _ _ _ _ 0,by simp,by simp,((Ext.refl w).alloc _).alloc _⟩
theorem Ql(w:World)(k a b n:Int)(s:ByteArray)(hk:Aq k=2):
  Calls Tryz.prog 85 #[.agg #[.int .i64 k,.int .i64 a,.int .i64 b,.int .i64 n,.string s]] w fun e w'=>∃c,e= .returned (.slice (some ⟨c,0,none⟩) 2 2)/\w'.cell? ⟨c,0,none⟩=some (.int .i64 a)/\w'.cell? ⟨c,1,none⟩=some (.int .i64 b)/\w.heap.size<=c/\c<w'.heap.size/\Ext w w':=by
 have HO:=hid (fun W=>Bs W k);rw[hk]at HO;clear hk;go_enter Tryz.func85,Tryz.ntmps85;go_wp2_with fail;refine(HO.out _).mono ?_
 rintro e w1 ⟨rfl,rfl⟩;go_wp2_with fail;go_ret;exact⟨_,rfl,CV _ _ _ _ 0,CV _ _ _ _ 1,by simp,by simp,((Ext.refl w).alloc _).alloc _⟩
def Sm(zs:List Nat)(w:World)(e:Ending)(w':World):Prop:=
 ∃A c,e= .returned (.slice A zs.length c)/\Ext w w'/\(0<zs.length->∃b,A=some ⟨b,0,none⟩/\w.heap.size<=b/\b<w'.heap.size/\∀i (yF:i<zs.length),w'.cell? ⟨b,i,none⟩=some (.int .i64 ((zs.getD i 0:Nat):Int)))
theorem Df{k:Nat}{t:Tx}(h:Lf k t):Cg ⟨(k:Int),0,0,0,t⟩=[]:=by
 unfold Cg;rw[if_pos (by rcases h with ⟨h,_⟩|⟨h,_⟩|⟨h,_⟩<;>simp only<;>omega)]
theorem DT{k:Nat}{n:Int}{j:Nat}(h:Ue k n):Cg ⟨(k:Int),(j:Int),0,n,[]⟩=[j]:=by
 unfold Cg;have:=h.1;rw[if_neg (by simp only;omega),if_neg (by simp only;omega)];rfl
theorem CY{k j q:Nat}(hk:6<=k/\k<=9):Cg ⟨(k:Int),(j:Int),(q:Int),0,[]⟩=[j,q]:=by
 unfold Cg;rw[if_neg (by simp only;omega),if_pos (by simp only;omega)];rfl
theorem CL.args_lt{i:Nat}{x:Nd}(h:CL i x):∀a∈Cg x,a<i:=by
 rcases h with ⟨k,t,rfl,ho⟩|⟨k,n,j,rfl,ho,hj⟩|⟨k,j,q,rfl,hk,hj,hq⟩
 ·rw[Df ho];intro a ha;cases ha
 ·rw[DT ho];intro a ha;simp only[List.mem_singleton]at ha;omega
 ·rw[CY hk];intro a ha;simp only[List.mem_cons,List.not_mem_nil,or_false]at ha;omega
theorem CL.args_len{i:Nat}{x:Nd}(h:CL i x):(Cg x).length<=2:=by
 rcases h with ⟨k,t,rfl,ho⟩|⟨k,n,j,rfl,ho,hj⟩|⟨k,j,q,rfl,hk,hj,hq⟩
 ·rw[Df ho];simp
 ·rw[DT ho];simp
 ·rw[CY hk];simp
theorem CL.oper{i:Nat}{x:Nd}(h:CL i x):Aq x.kind=((Cg x).length:Int):=by
 rcases h with ⟨k,t,rfl,ho⟩|⟨k,n,j,rfl,ho,hj⟩|⟨k,j,q,rfl,hk,hj,hq⟩
 ·rw[Df ho];have hk:1<=k/\k<=4:=by rcases ho with ⟨h,_⟩|⟨h,_⟩|⟨h,_⟩<;>omega
  unfold Aq;rw[if_neg (by simp only;omega),if_pos (by simp only;omega)];rfl
 ·rw[DT ho];have:=ho.1;unfold Aq;rw[if_neg (by simp only;omega),if_neg (by simp only;omega),if_neg (by simp only;omega)];rfl
 ·rw[CY hk];unfold Aq;rw[if_neg (by simp only;omega),if_neg (by simp only;omega),if_pos (by simp only;omega)];rfl
theorem Pm(w:World)(x:Nd){m:Nat}(h:CL m x):Calls Tryz.prog 85 #[ndV x] w (Sm (Cg x) w):=by
 have ho:=h.oper;rcases h with ⟨k,t,rfl,hk⟩|⟨k,n,j,rfl,hk,hj⟩|⟨k,j,q,rfl,hk,hj,hq⟩
 ·rw[Df hk]at ho ⊢;refine(NU w k 0 0 0 ⟨(t:List UInt8).toArray⟩ ho).mono ?_
  rintro e w' ⟨rfl,hx⟩;exact⟨_,_,rfl,hx,fun hp=>absurd hp (by decide)⟩
 ·rw[DT hk]at ho ⊢;refine(Sc w k j 0 n ⟨([]:List UInt8).toArray⟩ ho).mono ?_
  rintro e w' ⟨b,rfl,hc,h1,h2,hx⟩;refine⟨_,_,rfl,hx,fun _=>⟨b,rfl,h1,h2,fun i hi=> ?_⟩⟩;simp only[List.length_singleton]at hi;obtain rfl:i=0:=by omega
  exact hc
 ·rw[CY hk]at ho ⊢;refine(Ql w k j q 0 ⟨([]:List UInt8).toArray⟩ ho).mono ?_
  rintro e w' ⟨b,rfl,hc,dK,h1,h2,hx⟩;refine⟨_,_,rfl,hx,fun _=>⟨b,rfl,h1,h2,fun i hi=> ?_⟩⟩;simp only[List.length_cons,List.length_nil]at hi;obtain rfl|rfl:i=0\/i=1:=by omega
  ·exact hc
  ·exact dK
def Uj(zs:List Nat)(w:World)(e:Ending)(w':World):Prop:=
 ∃A c,e= .returned (.tuple #[.slice A zs.length c,.bool true])/\Ext w w'/\(0<zs.length->∃b,A=some ⟨b,0,none⟩/\w.heap.size<=b/\b<w'.heap.size/\∀i (yF:i<zs.length),w'.cell? ⟨b,i,none⟩=some (.int .i64 ((zs.getD i 0:Nat):Int)))
theorem S0(B g:Nat)(w:World)(ns:List Nd)(rv:Value)(h:GrR B g w ns rv)(i:Int):
  Calls Tryz.prog 89 #[.pointer (some ⟨g,0,none⟩),.int .i64 i] w fun e w'=>e= .returned (.bool (decide (0<=i/\i<(ns.length:Int))))/\Ext w w':=by
 obtain⟨k0,_,hg⟩:=h.blk.oneG;obtain⟨A2,c2,rfl⟩:=h.row.shape;clear h;by_cases h0:0<=i
 ·by_cases h1:i<(ns.length:Int)
  ·have hd:decide (0<=i/\i<(ns.length:Int))=true:=decide_eq_true ⟨h0,h1⟩;rw[hd];clear hd;go_enter Tryz.func89,Tryz.ntmps89;go_wp2_with fail;go_ret;exact⟨rfl,Ext.refl w⟩
  ·have hd:decide (0<=i/\i<(ns.length:Int))=false:=decide_eq_false (fun h=>h1 h.2);rw[hd];clear hd;go_enter Tryz.func89,Tryz.ntmps89;go_wp2_with fail;go_ret;exact⟨rfl,Ext.refl w⟩
 ·have hd:decide (0<=i/\i<(ns.length:Int))=false:=decide_eq_false (fun h=>h0 h.1);rw[hd];clear hd;go_enter Tryz.func89,Tryz.ntmps89;go_wp2_with fail;go_ret;exact⟨rfl,Ext.refl w⟩
theorem RJ(w:World)(x:Nd)(i:Nat)(h:CL i x)(hm:BW w)(P:Value)(m:Nat)(T:List X2)(hat:Tn w P m T)(vE:i<=m)(hT:∀x∈T,x.Ok):
  Calls Tryz.prog 139 #[ndV x,.func (.func 140) #[] #[P]] w (CM (BH x (T.getD x.a.toNat X2.O) (T.getD x.b.toNat X2.O)) w):=by
 have hg:∀j,(T.getD j X2.O).Ok:=fun j=>by
  rw[List.getD_eq_getElem?_getD];cases hj:T[j]? with
  |none=>exact X2.O_ok
  |some y=>exact hT y (List.mem_of_getElem? hj)
 rcases h with ⟨k,t,rfl,⟨rfl,h1,_⟩|⟨rfl,h1⟩|⟨rfl|rfl,rfl⟩⟩|⟨k,n,j,rfl,⟨h1,h2,h3,h4⟩,hj⟩|⟨k,j,q,rfl,hk,hj,hq⟩
 ·have e:∀x y,BH ⟨((1:Nat):Int),0,0,0,t⟩ x y=AW (Ic t) (If t):=fun x y=>by
   unfold BH;rw[if_pos (show ((1:Nat):Int)<5 by decide),if_pos (show ((1:Nat):Int)=1 by decide)]
  rw[e];exact NN w t h1 hm P
 ·have e:∀x y,BH ⟨((2:Nat):Int),0,0,0,t⟩ x y=X2.O:=fun x y=>by
   unfold BH;rw[if_pos (show ((2:Nat):Int)<5 by decide),if_neg (show ¬((2:Nat):Int)=1 by decide)]
  rw[e];exact NO w _ (.inl rfl) t P
 ·have e:∀x y,BH ⟨((3:Nat):Int),0,0,0,[]⟩ x y=X2.O:=fun x y=>by
   unfold BH;rw[if_pos (show ((3:Nat):Int)<5 by decide),if_neg (show ¬((3:Nat):Int)=1 by decide)]
  rw[e];exact NO w _ (.inr (.inl rfl)) [] P
 ·have e:∀x y,BH ⟨((4:Nat):Int),0,0,0,[]⟩ x y=X2.O:=fun x y=>by
   unfold BH;rw[if_pos (show ((4:Nat):Int)<5 by decide),if_neg (show ¬((4:Nat):Int)=1 by decide)]
  rw[e];exact NO w _ (.inr (.inr rfl)) [] P
 ·simp only[Int.toNat_natCast];exact S6 w (k:Int) j n [] (by omega) h3 h4 (fun e=>h2 (by omega)) P m T hat (by omega) _ _ rfl (hg _)
 ·simp only[Int.toNat_natCast];have hk:k=6\/k=7\/k=8\/k=9:=by omega
  rcases hk with rfl|rfl|rfl|rfl
  ·exact K2 w _ (.inl rfl) j q [] P m T hat (by omega) (by omega) _ _ rfl rfl (hg _) (hg _)
  ·exact K2 w _ (.inr (.inl rfl)) j q [] P m T hat (by omega) (by omega) _ _ rfl rfl (hg _) (hg _)
  ·exact K2 w _ (.inr (.inr rfl)) j q [] P m T hat (by omega) (by omega) _ _ rfl rfl (hg _) (hg _)
  ·exact S8 w j q [] P m T hat (by omega) (by omega) _ _ rfl rfl (hg _) (hg _)
theorem Rx:(Tryz.prog.info? 136).map (fun i=>(i.zero,i.size,i.bytes))=some (some (.agg #[.bool false,.slice none 0 0,.slice none 0 0,.int .i64 0]),4,64):=by kernel_rfl
theorem O5(n:Nat)(hn:n<=1000000)(W:World):(Instr.makeSlice 137 (.int .i64 (n:Int)) (.int .i64 (n:Int))).run Tryz.prog W=
  .ok (.slice (some ⟨W.heap.size,0,none⟩) n n) (W.alloc (.cells (EX n) 136)):=by
 obtain⟨i0,hi,aE,hz1,bx⟩:=info_parts Rx;have hr:=run_make (P:=Tryz.prog) W 137 136 i0 _ Tryz.underlying137 hi aE .i64 .i64 (n:Int) (n:Int) (by omega) (Int.le_refl _) (by rw[bx];omega) (by omega);have hm:madeCells (Value.cells (.agg #[.bool false,.slice none 0 0,.slice none 0 0,.int .i64 0])) (n*4)=EX n:=by
  apply Array.ext
  ·simp[madeCells,Eu]
  ·intro i h1 h2;rw[Eu]at h2;have h3:=Ef n (i / 4) (i % 4) (by omega) (by omega);rw[show i / 4*4+i % 4=i by omega,Array.getElem?_eq_getElem (by rw[Eu];exact h2)]at h3;have h4:i % 4=0\/i % 4=1\/i % 4=2\/i % 4=3:=by omega
   simp only[madeCells,Value.cells,Array.getElem_map,Array.getElem_range];rcases h4 with h4|h4|h4|h4<;>(rw[h4]at h3;simp only[List.getElem?_cons_zero,List.getElem?_cons_succ,Option.some.injEq]at h3;rw[h3];simp[h4])
 rw[hz1,Int.toNat_natCast,hm]at hr;exact hr
noncomputable def C4(R:Nat->Bool)(ns:List Nd)(k:Nat):List X2:=CE R (ns.take k)++List.replicate (ns.length-k) X2.O
theorem I1(R:Nat->Bool)(ns:List Nd)(k:Nat)(hk:k<=ns.length):(C4 R ns k).length=ns.length:=by
 unfold C4;rw[List.length_append,Dj,List.length_take,List.length_replicate];omega
theorem PM(R:Nat->Bool)(ns:List Nd):C4 R ns 0=List.replicate ns.length X2.O:=by
 unfold C4;rw[List.take_zero,Nat.sub_zero];rfl
theorem Ro(R:Nat->Bool)(ns:List Nd):C4 R ns ns.length=CE R ns:=by
 unfold C4;rw[List.take_length,Nat.sub_self,List.replicate_zero,List.append_nil]
theorem SM(R:Nat->Bool)(ns:List Nd)(k:Nat):∀x∈C4 R ns k,x.Ok:=by
 intro x hx;unfold C4 at hx;rcases List.mem_append.1 hx with h|h
 ·exact Su R _ x h
 ·rw[(List.mem_replicate.1 h).2];exact X2.O_ok
theorem I0(R:Nat->Bool)(ns:List Nd)(k:Nat)(hk:k<=ns.length){j:Nat}(hj:j<k):(C4 R ns k).getD j X2.O=(CE R (ns.take k)).getD j X2.O:=by
 unfold C4;exact EK _ _ (by rw[Dj,List.length_take];omega)
theorem Rn(R:Nat->Bool)(ns:List Nd)(k:Nat)(hk:k<ns.length)(x:X2):(C4 R ns k).set k x=CE R (ns.take k)++x::List.replicate (ns.length-(k+1)) X2.O:=by
 have hl:(CE R (ns.take k)).length=k:=by rw[Dj,List.length_take];omega
 unfold C4;rw[show ns.length-k=(ns.length-(k+1))+1 by omega,List.replicate_succ,List.set_append_right _ _ (by omega),hl,Nat.sub_self];rfl
theorem Rl(R:Nat->Bool)(ns:List Nd)(k:Nat)(hk:k<ns.length)(hR:R k=true){a b:Nat}(ha:a=ns[k].a.toNat)(hb:b=ns[k].b.toNat):(C4 R ns k).set k (BH ns[k] ((CE R (ns.take k)).getD a X2.O) ((CE R (ns.take k)).getD b X2.O))=C4 R ns (k+1):=by
 rw[Rn R ns k hk];have hl:(CE R (ns.take k)).length=k:=by rw[Dj,List.length_take];omega
 unfold C4;rw[GJ R ns hk];unfold EZ;rw[hl,if_pos hR,ha,hb,List.append_assoc];rfl
theorem SN(R:Nat->Bool)(ns:List Nd)(k:Nat)(hk:k<ns.length)(hR:R k=false):C4 R ns k=C4 R ns (k+1):=by
 have hl:(CE R (ns.take k)).length=k:=by rw[Dj,List.length_take];omega
 unfold C4;rw[GJ R ns hk];unfold EZ;rw[hl,hR,show ns.length-k=(ns.length-(k+1))+1 by omega,List.replicate_succ,List.append_assoc];rfl
theorem Rm(R:Nat->Bool)(ns:List Nd)(k:Nat)(hk:k<ns.length){x:Nd}(hx:CL k x):BH x ((C4 R ns k).getD x.a.toNat X2.O) ((C4 R ns k).getD x.b.toNat X2.O)=BH x ((CE R (ns.take k)).getD x.a.toNat X2.O) ((CE R (ns.take k)).getD x.b.toNat X2.O):=by
 rcases hx with ⟨j,t,rfl,ho⟩|⟨j,n,a,rfl,ho,ha⟩|⟨j,a,b,rfl,hj,ha,hb⟩
 ·have:j<5:=by rcases ho with ⟨h,_⟩|⟨h,_⟩|⟨h,_⟩<;>omega
  exact Fr (by simp only;omega) _ _ _ _
 ·have:=ho.1;simp only[Int.toNat_natCast];rw[I0 R ns k (by omega) ha];exact Ih (by simp only;omega) (by simp only;omega) _ _ _
 ·simp only[Int.toNat_natCast];rw[I0 R ns k (by omega) ha,I0 R ns k (by omega) hb]
theorem EV.at{w:World}{c b n:Nat}{T:List X2}(h:EV w c b T)(hn:n=T.length):w.cell? ⟨c,0,none⟩=some (.slice (some ⟨b,0,none⟩) n n):=by
 rw[hn];exact h.blk.cell 0
theorem ES.at4{w:World}{g:Nat}{T:List X2}(h:ES w g T)(k:Nat)(hk:k<T.length):∃v0 v1 v2 v3,(w.cell? ⟨g,k*4,none⟩=some v0/\w.cell? ⟨g,k*4+1,none⟩=some v1/\w.cell? ⟨g,k*4+2,none⟩=some v2/\w.cell? ⟨g,k*4+3,none⟩=some v3)/\
  w.frozen? ⟨g,k*4,none⟩=false/\w.frozen? ⟨g,k*4+1,none⟩=false/\w.frozen? ⟨g,k*4+2,none⟩=false/\w.frozen? ⟨g,k*4+3,none⟩=false:=by
 obtain⟨cs,h1,h2,h3⟩:=h;obtain⟨⟨A,n,c,A',n',c',q0,q1,q2,_⟩,q3⟩:=h3 k _ (List.getElem?_eq_getElem hk);exact⟨_,_,_,_,⟨q0,q1,q2,q3⟩,h1.frozen _,h1.frozen _,h1.frozen _,h1.frozen _⟩
theorem EV.put{w:World}{c b:Nat}{T:List X2}(h:EV w c b T)(hne:c≠b){i:Nat}(hi:i<T.length){f:Bool}{A:Option Addr}{n k:Nat}{A':Option Addr}{n' k':Nat}{x:X2}(hx:Bw w (.agg #[.bool f,.slice A n k,.slice A' n' k',.int .i64 (x.st:Int)]) x):
  EV ((((w.setCell ⟨b,i*4,none⟩ (.bool f)).setCell ⟨b,i*4+1,none⟩ (.slice A n k)).setCell ⟨b,i*4+2,none⟩ (.slice A' n' k')).setCell ⟨b,i*4+3,none⟩ (.int .i64 (x.st:Int))) c b (T.set i x):=by
 obtain⟨A1,n1,k1,A2,n2,k2,he,hr⟩:=hx;injection he with he
 injection he with he
 injection he with e1 he
 injection he with e2 he
 injection he with e3 he
 injection e1 with e1
 rw[e1,e2,e3];have h4:=(h.row.set hi hr).1;have hb:=(((h.blk.far (p:=⟨b,i*4,none⟩) hne (.bool (decide (x.p<0)))).far (p:=⟨b,i*4+1,none⟩) hne (.slice A1 n1 k1)).far (p:=⟨b,i*4+2,none⟩) hne (.slice A2 n2 k2)).far (p:=⟨b,i*4+3,none⟩) hne (.int .i64 (x.st:Int));exact⟨by rw[List.length_set];exact hb,h4⟩
def Iv(R:Nat->Bool)(ns:List Nd)(w:World)(e:Ending)(w':World):Prop:=∃b,e= .returned (.slice (some ⟨b,0,none⟩) ns.length ns.length)/\ES w' b (CE R ns)/\Ext w w'
theorem TT(fn:Nat)(uC:Array Value)(hc:∀args W,(callFunc fn args).run Tryz.prog W= .ok (.enter fn args) W)(w:World)(nv:Value)(ns:List Nd)(h:RNd w nv ns)(hs:AC ns)(hn:ns.length<=4096)(hm:BW w)(R:Nat->Bool)(hR:∀W,Ext w W->∀i,i<ns.length->Calls Tryz.prog fn (#[.int .i64 (i:Int)]++uC) W fun e w'=>e= .returned (.bool (R i))/\Ext W w'):
  Calls Tryz.prog 81 #[nv,.func (.func fn) #[] uC] w (Iv R ns w):=by
 have HM:=hid hm;have HS:=hid hs;have HR:=hid hR;obtain⟨n,gO⟩:∃n,n=ns.length:=⟨_,rfl⟩;have kK:=hid gO;have cS:=O5 n (by omega);obtain⟨A,c,rfl,my⟩:=h;have lC:=hid my;unfold Iv;rw[<-gO]at hn ⊢;clear hs hm hR gO my;go_enter Tryz.func81,Tryz.ntmps81;go_upto_region 2 with fail;have ho:EV ((w.alloc (.cells (EX n) 136)).alloc (.cells #[.slice (some ⟨w.heap.size,0,none⟩) n n] 137)) (w.heap.size+1) w.heap.size (C4 R ns 0):=by
  refine⟨?_,?_⟩
  ·have hb:=Blk.new (w.alloc (.cells (EX n) 136)) 137 #[.slice (some ⟨w.heap.size,0,none⟩) n n];simp only[World.size_alloc]at hb;rw[I1 R ns 0 (Nat.zero_le _),<-kK.out];exact hb
  ·rw[PM,<-kK.out];exact ES.zero ((Blk.new w _ _).alloc _)
 have hx:=((Ext.refl w).alloc (.cells (EX n) 136)).alloc (.cells #[.slice (some ⟨w.heap.size,0,none⟩) n n] 137);generalize (w.alloc (.cells (EX n) 136)).alloc (.cells #[.slice (some ⟨w.heap.size,0,none⟩) n n] 137)=w1 at *;have HO:=hid ho;have HX:=hid hx;clear ho hx cS;go_wp2_with fail;go_loopw [13] (fun s13 wr=>∃k:Nat,k<=n/\s13= .int .i64 (k:Int)/\EV wr (w.heap.size+1) w.heap.size (C4 R ns k)/\Ext w wr) (fun s13 _=>n-(intOf s13).toNat)
 case atStart=>exact⟨0,Nat.zero_le _,rfl,HO.out,HX.out⟩
 case round=>
  clear HO HX;obtain⟨k,hk,rfl,ho,hx⟩:=hrel;by_cases hlt:k<n
  ·have kB:k<ns.length:=by rw[<-kK.out];exact hlt
   have tL:(C4 R ns k).length=n:=(I1 R ns k (by omega)).trans kK.out.symm;have ax:=HS.out.2 k _ (List.getElem?_eq_getElem kB);have HW:=hid (fun W hx=>HR.out W hx k kB);have eO:=hid (fun W (ho:EV W (w.heap.size+1) w.heap.size (C4 R ns k)) hm=>RJ W ns[k] k ax hm (.pointer (some ⟨w.heap.size+1,0,none⟩)) k (C4 R ns k) (fun W' hx j hj=>TS W' (w.heap.size+1) w.heap.size (C4 R ns k) (ho.ext hx) j (by omega) (by omega)) (Nat.le_refl _) (SM R ns k));unfold CM at eO;rw[Rm R ns k kB ax]at eO;have uW:Hid (n=(C4 R ns k).length):=hid tL.symm;have ki:Hid (k<(C4 R ns k).length):=hid (by rw[tL];exact hlt);have yK:=hid (fun hr=>Rl R ns k kB hr (a:=ns[k].a.toNat) (b:=ns[k].b.toNat) rfl rfl);have b9:=hid (SN R ns k kB);have HX:=hid hx;have HO:=hid ho;obtain⟨gb,o,rfl,eR,hc⟩:=lC.out (by omega);obtain⟨p0,p1,p2,p3,p4⟩:=hc k kB;rw[<-hx.cell eR]at p0 p1 p2 p3 p4;have au:gb<wr.heap.size:=Nat.lt_of_lt_of_le eR hx.size;have mj:(0:Int)<=(k:Int):=by omega
   have tS:(k:Int)<(n:Int):=by omega
   have UV:IntKind.i64.wrap ((k:Int)+1)=(k:Int)+1:=IntWalk.i64_in _ (by omega);generalize BH ns[k] ((CE R (ns.take k)).getD ns[k].a.toNat X2.O) ((CE R (ns.take k)).getD ns[k].b.toNat X2.O)=X at *;generalize ns[k]=x at *;clear hc ax tL hx ho;obtain⟨y0,y1,y2,y3,y4⟩:=x;simp only[ndV]at eO;simp only at p0 p1 p2 p3 p4;obtain⟨s,ac⟩:∃s:ByteArray,str y4= .string s:=⟨_,rfl⟩;rw[ac]at p4 eO;clear ac;have HN:=hid (Blk.new wr 95 #[.int .i64 y0,.int .i64 y1,.int .i64 y2,.int .i64 y3,.string s]);have ch:=(Ext.refl wr).alloc (.cells #[.int .i64 y0,.int .i64 y1,.int .i64 y2,.int .i64 y3,.string s] 95);go_upto_region 5 with fail;generalize wr.alloc (.cells #[.int .i64 y0,.int .i64 y1,.int .i64 y2,.int .i64 y3,.string s] 95)=w7 at *;have HX:=hid (HX.out.trans ch);have HO:=hid (HO.out.ext ch);generalize wr.heap.size=nb at *;clear ch p0 p1 p2 p3 p4;go_wp2_with fail;refine(HW.out w7 HX.out).mono ?_
   rintro e w8 ⟨rfl,cp⟩;have HX:=hid (HX.out.trans cp);have HO:=hid (HO.out.ext cp);have HN:=hid (HN.out.ext cp);clear cp;cases hRk:R k with
   |true=>
    have YS:=hid (yK.out hRk);clear hRk;have av:=HN.out.five;have hc0:=HO.out.at uW.out;obtain⟨v0,v1,v2,v3,⟨r0,r1,r2,r3⟩,g0,g1,g2,g3⟩:=HO.out.row.at4 k ki.out;go_upto_region 6 with fail
    go_region_law (go_simp;go_at_call 139;refine(eO.out _ (HO.out.ext (Ext.refl _).drew) (HM.out.ext (HX.out.trans (Ext.refl _).drew))).mono ?_;rintro e w9 ⟨v9,rfl,fR,hx⟩;obtain⟨f9,A9,n9,k9,A8,n8,k8,rfl⟩:=fR.shape;have R9:=hid fR;have HO:=hid (HO.out.ext ((Ext.refl _).drew.trans hx));have HX:=hid (HX.out.trans ((Ext.refl _).drew.trans hx));have HN:=hid (HN.out.ext ((Ext.refl _).drew.trans hx));clear hx fR;clear av hc0 r0 r1 r2 r3 g0 g1 g2 g3;have av:=HN.out.five;have hc0:=HO.out.at uW.out;obtain⟨v0,v1,v2,v3,⟨r0,r1,r2,r3⟩,g0,g1,g2,g3⟩:=HO.out.row.at4 k ki.out)
    all_goals
     go_wp2_with fail;go_roundw
     case rel=>
      refine⟨k+1,hlt,by go_num,?_,?_⟩
      ·rw[<-YS.out];exact HO.out.put (by omega) ki.out R9.out
      ·exact(((HX.out.setCell (p:=⟨w.heap.size,k*4,none⟩) (Nat.le_refl _) _).setCell (p:=⟨w.heap.size,k*4+1,none⟩) (Nat.le_refl _) _).setCell (p:=⟨w.heap.size,k*4+2,none⟩) (Nat.le_refl _) _).setCell (p:=⟨w.heap.size,k*4+3,none⟩) (Nat.le_refl _) _
     case measure=>simp[intOf];omega
   |false=>
    have kX:=b9.out hRk;rw[kX]at HO;have HO:=hid HO.out;clear kX;go_wp2_with fail;go_roundw
    case rel=>exact⟨k+1,hlt,by go_num,HO.out,HX.out⟩
    case measure=>simp[intOf];omega
  ·obtain rfl:k=n:=by omega
   have HE:Hid (ES wr w.heap.size (CE R ns)/\Ext w wr):=hid ⟨by rw[<-Ro,<-kK.out];exact ho.row,hx⟩;have HC:=hid (ho.at (n:=k) (by rw[I1 R ns k (by rw[<-kK.out];exact Nat.le_refl _)];exact kK.out));have iK:=HC.out;clear ho hx;go_wp2_with fail;go_ret;exact⟨_,rfl,HE.out⟩
theorem Uc(w:World)(nv:Value)(ns:List Nd)(h:RNd w nv ns)(hs:AC ns)(hn:ns.length<=4096)(hm:BW w)(R:Nat->Bool)(Pc:Value)(hR:∀W,Ext w W->∀i,i<ns.length->Calls Tryz.prog 82 #[.int .i64 (i:Int),Pc] W fun e w'=>e= .returned (.bool (R i))/\Ext W w'):
  Calls Tryz.prog 81 #[nv,.func (.func 82) #[] #[Pc]] w (Iv R ns w):=TT _ _ (fun _ _=>by simp[callFunc,go_sem,Tryz.func82,Tryz.f82]) w nv ns h hs hn hm R hR
def szA(S args:List Nat):Nat:=args.foldl (fun s a=>min (s+S.getD a 0) 201) 1
def dpA(D args:List Nat):Nat:=args.foldl (fun d a=>max d (D.getD a 0+1)) 1
def UF(L:List Nat)(v r:Nat):List Nat:=L++v::List.replicate r 0
end Big
end Go.Proofs.YtkoaogkknnelaaaGreatDoor
