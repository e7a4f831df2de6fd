import Derived.Test.YtaccjdbbkmhanaaGreatDoorM33
import Derived.Test.YtaccjdbbkmhanaaGreatDoorM20
import Derived.Test.YtaccjdbbkmhanaaGreatDoorM10
import Derived.Test.YtaccjdbbkmhanaaGreatDoorM30
import Derived.Test.YtaccjdbbkmhanaaGreatDoorM21
namespace Go.Proofs.YtaccjdbbkmhanaaGreatDoor
namespace Big
theorem SoundG.load {ns:List Nd} (h:SoundG ns) {i:Nat} (hi:i<ns.length):putG (ns.take i) ns[i]=(i,ns.take (i+1)):=by
 have hno:ns[i]∉ns.take i:=by
  intro hm
  obtain ⟨j,hj,he⟩:=List.getElem_of_mem hm
  rw [List.length_take] at hj
  rw [List.getElem_take] at he
  have:=nodup_inj h.1 (by omega) hi he
  omega
 unfold putG
 rw [if_neg hno,List.length_take,Nat.min_eq_left (by omega),List.take_append_getElem hi]
theorem SoundG.take {ns:List Nd} (h:SoundG ns) (i:Nat):SoundG (ns.take i):=h.pre (List.take_prefix i ns)
theorem NdOk.plain {i:Nat} {x:Nd} (h:NdOk i x):plainB x=true:=by
 rcases h with ⟨k,t,rfl,ho⟩|⟨k,n,j,rfl,ho,hj⟩|⟨k,j,q,rfl,hk,hj,hq⟩
 ·have hk:1≤k∧k≤4:=by rcases ho with ⟨h,_⟩|⟨h,_⟩|⟨h,_⟩<;>omega
  unfold plainB plainT plainM
  rw [if_neg (c:=(k:Int)=10) (by omega)]
  rcases ho with ⟨rfl,h,_⟩|⟨rfl,h⟩|⟨h,rfl⟩
  ·simp [h]
  ·simp [h]
  ·rw [if_neg (by simp only;omega),if_neg (by simp only;omega)];rfl
 ·obtain ⟨h1,h2,h3,h4⟩:=ho
  unfold plainB plainT plainM
  rw [if_neg (by simp only;omega),if_neg (by simp only;omega)]
  by_cases hk:k=10
  ·subst hk
   simp [h3,h4]
  ·rw [if_neg (by simp only;omega)]
   simp [h2 hk]
 ·unfold plainB plainT plainM
  rw [if_neg (by simp only;omega),if_neg (by simp only;omega),if_neg (by simp only;omega)]
  rfl
theorem placeG_first {x:Nd} {l:List Nd} {i:Nat} (hi:i<l.length) (hx:l[i]=x) (h:∀j (hj:j<l.length),j<i→l[j]≠x):placeG x l=i:=by
 induction l generalizing i with
 |nil=>simp at hi
 |cons y l ih=>
  rw [placeG_cons]
  cases i with
  |zero=>
   simp only [List.getElem_cons_zero] at hx
   rw [if_pos hx]
  |succ i=>
   have h0:=h 0 (by simp) (by omega)
   simp only [List.getElem_cons_zero] at h0
   rw [if_neg h0,ih (by simpa using hi) (by simpa using hx) (fun j hj hji=>by
    have:=h (j+1) (by simpa using hj) (by omega)
    simpa using this)]
def NamesAt (ns:List Nd) (i:Nat) (l:List Tx):Prop:=Asc l∧∀t,t∈l↔NameIn ns i t
theorem NamesAt.uniq {ns:List Nd} {i:Nat} {l m:List Tx} (h:NamesAt ns i l) (h':NamesAt ns i m):l=m:=
 asc_uniq h.1 h'.1 (fun t=>(h.2 t).trans (h'.2 t).symm)
end Big
end Go.Proofs.YtaccjdbbkmhanaaGreatDoor
namespace Go.Proofs.YtaccjdbbkmhanaaGreatDoor
namespace Big
open Go.RowKit
structure GrR (B g:Nat) (w:World) (ns:List Nd) (rv:Value):Prop where
 blk:Blk w g 46 #[rv]
 row:OwnNd B w rv ns
 lo:B≤g
 ok:SoundG ns
 few:ns.length≤4096
theorem GrR.lt {B g:Nat} {w:World} {ns:List Nd} {rv:Value} (h:GrR B g w ns rv):g<w.heap.size:=h.blk.lt
theorem GrR.keep {B g:Nat} {w w':World} {ns:List Nd} {rv:Value} (h:GrR B g w ns rv) (hx:Ext w w'):GrR B g w' ns rv:=
 ⟨h.blk.ext hx,h.row.ext hx,h.lo,h.ok,h.few⟩
theorem GrR.apart2 {B g:Nat} {w:World} {ns:List Nd} {rv:Value} (h:GrR B g w ns rv):rv.ownBlock≠some g:=by
 intro e
 have hb:=h.blk
 have hr:=h.row
 unfold OwnNd at hr
 unfold Blk at hb
 rcases hr.2 with ⟨rfl,_⟩|⟨q,cap,cur,rfl,_,hh,_⟩
 ·cases e
 ·simp only [Value.ownBlock,Option.some.injEq] at e
  subst e
  rw [hb] at hh
  injection hh with hh
  injection hh with _ hh _
  exact absurd hh (by decide)
theorem KG.belowR {B g:Nat} {n1 n2:Value} {w w':World} {ns:List Nd} (h:KG g g n1 n2 w w') (hr:GrR B g w ns n1):Below B w w':=
 ⟨h.os,h.tape,h.output,h.size,fun k hk=>by
  have h1:=hr.blk.lt
  have h2:=hr.lo
  exact h.block k (by omega) (by omega) (by omega) (fun e=>by have:=ownsRow_block hr.row k e;omega)⟩
theorem Blk.oneG {w:World} {g:Nat} {t:TypeId} {a:Value} (h:Blk w g t #[a]):w.cell? ⟨g,0,none⟩=some a∧w.frozen? ⟨g,0,none⟩=false∧g<w.heap.size:=
 ⟨h.cell 0,h.frozen 0,h.lt⟩
theorem NdFar.newR {B g:Nat} {rv:Value} {w0 w:World} {v:Value} {l ns:List Nd} (h:OwnNd w0.heap.size w v l) (hg:GrR B g w0 ns rv):NdFar g g rv w v l:=by
 obtain ⟨A,c,hv,h1⟩:=h.read
 refine ⟨A,c,hv,fun hp=> ?_⟩
 obtain ⟨q,o,rfl,hq,hc⟩:=h1 hp
 have hge:=ownsRow_block h q (by rw [hv];rfl)
 have h2:=hg.lt
 exact ⟨q,o,rfl,hq,by omega,by omega,fun e=>by have:=ownsRow_ltG hg.row e;omega,hc⟩
set_option maxHeartbeats 4000000 in
set_option maxRecDepth 100000 in
theorem args_leafR (w:World) (k a b n:Int) (s:ByteArray) (hk:operI k=0):
  Calls Tryz.prog 59 #[.agg #[.int .i64 k,.int .i64 a,.int .i64 b,.int .i64 n,.string s]] w fun e w'=>e= .returned (.slice none 0 0)∧Ext w w':=by
 have HO:=Lib.hid (fun W=>operands_any W k)
 rw [hk] at HO
 clear hk
 go_enter Tryz.func59,Tryz.ntmps59
 go_wp2_with fail
 refine (HO.out _).mono ?_
 rintro e w1 ⟨rfl,rfl⟩
 go_wp2_with fail
 go_ret
 exact ⟨rfl,(Ext.refl w).alloc _⟩
set_option maxHeartbeats 4000000 in
set_option maxRecDepth 100000 in
theorem args_unR (w:World) (k a b n:Int) (s:ByteArray) (hk:operI k=1):
  Calls Tryz.prog 59 #[.agg #[.int .i64 k,.int .i64 a,.int .i64 b,.int .i64 n,.string s]] w fun e w'=>∃b,e= .returned (.slice (some ⟨b,0,none⟩) 1 1)∧w'.cell? ⟨b,0,none⟩=some (.int .i64 a)∧w.heap.size≤b∧b<w'.heap.size∧Ext w w':=by
 have HO:=Lib.hid (fun W=>operands_any W k)
 rw [hk] at HO
 clear hk
 go_enter Tryz.func59,Tryz.ntmps59
 go_wp2_with fail
 refine (HO.out _).mono ?_
 rintro e w1 ⟨rfl,rfl⟩
 go_wp2_with fail
 go_ret
 exact ⟨_,rfl,second_cell _ _ _ _ 0,by simp,by simp,((Ext.refl w).alloc _).alloc _⟩
set_option maxHeartbeats 4000000 in
set_option maxRecDepth 100000 in
theorem args_binR (w:World) (k a b n:Int) (s:ByteArray) (hk:operI k=2):
  Calls Tryz.prog 59 #[.agg #[.int .i64 k,.int .i64 a,.int .i64 b,.int .i64 n,.string s]] w fun e w'=>∃c,e= .returned (.slice (some ⟨c,0,none⟩) 2 2)∧w'.cell? ⟨c,0,none⟩=some (.int .i64 a)∧w'.cell? ⟨c,1,none⟩=some (.int .i64 b)∧w.heap.size≤c∧c<w'.heap.size∧Ext w w':=by
 have HO:=Lib.hid (fun W=>operands_any W k)
 rw [hk] at HO
 clear hk
 go_enter Tryz.func59,Tryz.ntmps59
 go_wp2_with fail
 refine (HO.out _).mono ?_
 rintro e w1 ⟨rfl,rfl⟩
 go_wp2_with fail
 go_ret
 exact ⟨_,rfl,second_cell _ _ _ _ 0,second_cell _ _ _ _ 1,by simp,by simp,((Ext.refl w).alloc _).alloc _⟩
def ArgsPost (zs:List Nat) (w:World) (e:Ending) (w':World):Prop:=
 ∃A c,e= .returned (.slice A zs.length c)∧Ext w w'∧(0<zs.length→∃b,A=some ⟨b,0,none⟩∧w.heap.size≤b∧b<w'.heap.size∧∀i (_hi:i<zs.length),w'.cell? ⟨b,i,none⟩=some (.int .i64 ((zs.getD i 0:Nat):Int)))
theorem argsG_leaf {k:Nat} {t:Tx} (h:LeafOk k t):argsG ⟨(k:Int),0,0,0,t⟩=[]:=by
 unfold argsG
 rw [if_pos (by rcases h with ⟨h,_⟩|⟨h,_⟩|⟨h,_⟩<;>simp only<;>omega)]
theorem argsG_un {k:Nat} {n:Int} {j:Nat} (h:UnOk k n):argsG ⟨(k:Int),(j:Int),0,n,[]⟩=[j]:=by
 unfold argsG
 have:=h.1
 rw [if_neg (by simp only;omega),if_neg (by simp only;omega)]
 rfl
theorem argsG_bin {k j q:Nat} (hk:6≤k∧k≤9):argsG ⟨(k:Int),(j:Int),(q:Int),0,[]⟩=[j,q]:=by
 unfold argsG
 rw [if_neg (by simp only;omega),if_pos (by simp only;omega)]
 rfl
theorem NdOk.args_lt {i:Nat} {x:Nd} (h:NdOk i x):∀a∈argsG x,a<i:=by
 rcases h with ⟨k,t,rfl,ho⟩|⟨k,n,j,rfl,ho,hj⟩|⟨k,j,q,rfl,hk,hj,hq⟩
 ·rw [argsG_leaf ho];intro a ha;cases ha
 ·rw [argsG_un ho];intro a ha;simp only [List.mem_singleton] at ha;omega
 ·rw [argsG_bin hk];intro a ha;simp only [List.mem_cons,List.not_mem_nil,or_false] at ha;omega
theorem NdOk.args_len {i:Nat} {x:Nd} (h:NdOk i x):(argsG x).length≤2:=by
 rcases h with ⟨k,t,rfl,ho⟩|⟨k,n,j,rfl,ho,hj⟩|⟨k,j,q,rfl,hk,hj,hq⟩
 ·rw [argsG_leaf ho];simp
 ·rw [argsG_un ho];simp
 ·rw [argsG_bin hk];simp
theorem NdOk.oper {i:Nat} {x:Nd} (h:NdOk i x):operI x.kind=((argsG x).length:Int):=by
 rcases h with ⟨k,t,rfl,ho⟩|⟨k,n,j,rfl,ho,hj⟩|⟨k,j,q,rfl,hk,hj,hq⟩
 ·rw [argsG_leaf ho]
  have hk:1≤k∧k≤4:=by rcases ho with ⟨h,_⟩|⟨h,_⟩|⟨h,_⟩<;>omega
  unfold operI
  rw [if_neg (by simp only;omega),if_pos (by simp only;omega)]
  rfl
 ·rw [argsG_un ho]
  have:=ho.1
  unfold operI
  rw [if_neg (by simp only;omega),if_neg (by simp only;omega),if_neg (by simp only;omega)]
  rfl
 ·rw [argsG_bin hk]
  unfold operI
  rw [if_neg (by simp only;omega),if_neg (by simp only;omega),if_pos (by simp only;omega)]
  rfl
theorem rargs_any (w:World) (x:Nd) {m:Nat} (h:NdOk m x):Calls Tryz.prog 59 #[ndV x] w (ArgsPost (argsG x) w):=by
 have ho:=h.oper
 rcases h with ⟨k,t,rfl,hk⟩|⟨k,n,j,rfl,hk,hj⟩|⟨k,j,q,rfl,hk,hj,hq⟩
 ·rw [argsG_leaf hk] at ho ⊢
  refine (args_leafR w k 0 0 0 ⟨(t:List UInt8).toArray⟩ ho).mono ?_
  rintro e w' ⟨rfl,hx⟩
  exact ⟨_,_,rfl,hx,fun hp=>absurd hp (by decide)⟩
 ·rw [argsG_un hk] at ho ⊢
  refine (args_unR w k j 0 n ⟨([]:List UInt8).toArray⟩ ho).mono ?_
  rintro e w' ⟨b,rfl,hc,h1,h2,hx⟩
  refine ⟨_,_,rfl,hx,fun _=>⟨b,rfl,h1,h2,fun i hi=> ?_⟩⟩
  simp only [List.length_singleton] at hi
  obtain rfl:i=0:=by omega
  exact hc
 ·rw [argsG_bin hk] at ho ⊢
  refine (args_binR w k j q 0 ⟨([]:List UInt8).toArray⟩ ho).mono ?_
  rintro e w' ⟨b,rfl,hc,hc2,h1,h2,hx⟩
  refine ⟨_,_,rfl,hx,fun _=>⟨b,rfl,h1,h2,fun i hi=> ?_⟩⟩
  simp only [List.length_cons,List.length_nil] at hi
  obtain rfl|rfl:i=0∨i=1:=by omega
  ·exact hc
  ·exact hc2
def GopsPost (zs:List Nat) (w:World) (e:Ending) (w':World):Prop:=
 ∃A c,e= .returned (.tuple #[.slice A zs.length c,.bool true])∧Ext w w'∧(0<zs.length→∃b,A=some ⟨b,0,none⟩∧w.heap.size≤b∧b<w'.heap.size∧∀i (_hi:i<zs.length),w'.cell? ⟨b,i,none⟩=some (.int .i64 ((zs.getD i 0:Nat):Int)))
theorem gops_any (w:World) (x:Nd) {m:Nat} (h:NdOk m x):Calls Tryz.prog 29 #[ndV x] w (GopsPost (argsG x) w):=by
 rcases h with ⟨k,t,rfl,hk⟩|⟨k,n,j,rfl,hk,hj⟩|⟨k,j,q,rfl,hk,hj,hq⟩
 ·rw [argsG_leaf hk]
  refine (operands_leaf w k 0 0 0 ⟨(t:List UInt8).toArray⟩ (by rcases hk with ⟨h,_⟩|⟨h,_⟩|⟨h,_⟩<;>omega)).mono ?_
  rintro e w' ⟨rfl,hx⟩
  exact ⟨_,_,rfl,hx,fun hp=>absurd hp (by decide)⟩
 ·rw [argsG_un hk]
  refine (operands_un w k j 0 n ⟨([]:List UInt8).toArray⟩ (by have:=hk.1;omega)).mono ?_
  rintro e w' ⟨b,rfl,hc,h1,h2,hx⟩
  refine ⟨_,_,rfl,hx,fun _=>⟨b,rfl,h1,h2,fun i hi=> ?_⟩⟩
  simp only [List.length_singleton] at hi
  obtain rfl:i=0:=by omega
  exact hc
 ·rw [argsG_bin hk]
  refine (operands_bin w k j q 0 ⟨([]:List UInt8).toArray⟩ (by omega)).mono ?_
  rintro e w' ⟨b,rfl,hc,hc2,h1,h2,hx⟩
  refine ⟨_,_,rfl,hx,fun _=>⟨b,rfl,h1,h2,fun i hi=> ?_⟩⟩
  simp only [List.length_cons,List.length_nil] at hi
  obtain rfl|rfl:i=0∨i=1:=by omega
  ·exact hc
  ·exact hc2
set_option maxRecDepth 100000 in
theorem has_any (B g:Nat) (w:World) (ns:List Nd) (rv:Value) (h:GrR B g w ns rv) (i:Int):
  Calls Tryz.prog 39 #[.pointer (some ⟨g,0,none⟩),.int .i64 i] w fun e w'=>e= .returned (.bool (decide (0≤i∧i<(ns.length:Int))))∧Ext w w':=by
 obtain ⟨k0,_,hg⟩:=h.blk.oneG
 obtain ⟨A2,c2,rfl⟩:=h.row.shape
 clear h
 by_cases h0:0≤i
 ·by_cases h1:i<(ns.length:Int)
  ·have hd:decide (0≤i∧i<(ns.length:Int))=true:=decide_eq_true ⟨h0,h1⟩
   rw [hd]
   clear hd
   go_enter Tryz.func39,Tryz.ntmps39
   go_wp2_with fail
   go_ret
   exact ⟨rfl,Ext.refl w⟩
  ·have hd:decide (0≤i∧i<(ns.length:Int))=false:=decide_eq_false (fun h=>h1 h.2)
   rw [hd]
   clear hd
   go_enter Tryz.func39,Tryz.ntmps39
   go_wp2_with fail
   go_ret
   exact ⟨rfl,Ext.refl w⟩
 ·have hd:decide (0≤i∧i<(ns.length:Int))=false:=decide_eq_false (fun h=>h0 h.1)
  rw [hd]
  clear hd
  go_enter Tryz.func39,Tryz.ntmps39
  go_wp2_with fail
  go_ret
  exact ⟨rfl,Ext.refl w⟩
end Big
end Go.Proofs.YtaccjdbbkmhanaaGreatDoor
namespace Go.Proofs.YtaccjdbbkmhanaaGreatDoor
namespace Big
def szA (S args:List Nat):Nat:=args.foldl (fun s a=>min (s+S.getD a 0) 201) 1
def dpA (D args:List Nat):Nat:=args.foldl (fun d a=>max d (D.getD a 0+1)) 1
theorem szA_snoc (S args:List Nat) (a:Nat):szA S (args++[a])=min (szA S args+S.getD a 0) 201:=by unfold szA;rw [List.foldl_append];rfl
theorem dpA_snoc (D args:List Nat) (a:Nat):dpA D (args++[a])=max (dpA D args) (D.getD a 0+1):=by unfold dpA;rw [List.foldl_append];rfl
theorem bigG_snoc (ns:List Nd) (x:Nd) {m:Nat} (h:NdOk m x):bigG (ns++[x])=bigG ns++[szA (bigG ns) (argsG x)]:=by
 unfold bigG
 rw [allN_snoc]
 rcases h with ⟨k,t,rfl,ho⟩|⟨k,n,j,rfl,ho,hj⟩|⟨k,j,q,rfl,hk,hj,hq⟩
 ·rw [argsG_leaf ho]
  have:=ho.lt
  unfold stepN
  rw [if_pos (by simp only;omega)]
  rfl
 ·rw [argsG_un ho]
  have:=ho.1
  unfold stepN
  rw [if_neg (by simp only;omega),if_neg (by simp only;omega)]
  rfl
 ·rw [argsG_bin hk]
  unfold stepN
  rw [if_neg (by simp only;omega),if_pos (by simp only;omega)]
  rfl
theorem deepG_snoc (ns:List Nd) (x:Nd) {m:Nat} (h:NdOk m x):deepG (ns++[x])=deepG ns++[dpA (deepG ns) (argsG x)]:=by
 unfold deepG
 rw [allN_snoc]
 rcases h with ⟨k,t,rfl,ho⟩|⟨k,n,j,rfl,ho,hj⟩|⟨k,j,q,rfl,hk,hj,hq⟩
 ·rw [argsG_leaf ho]
  have:=ho.lt
  unfold stepN
  rw [if_pos (by simp only;omega)]
  rfl
 ·rw [argsG_un ho]
  have:=ho.1
  unfold stepN
  rw [if_neg (by simp only;omega),if_neg (by simp only;omega)]
  rfl
 ·rw [argsG_bin hk]
  unfold stepN
  rw [if_neg (by simp only;omega),if_pos (by simp only;omega)]
  rfl
theorem bigG_len (ns:List Nd):(bigG ns).length=ns.length:=allN_len ns
theorem deepG_len (ns:List Nd):(deepG ns).length=ns.length:=allN_len ns
theorem szA_le (S args:List Nat):szA S args≤201:=by
 have key:∀(l:List Nat) (s:Nat),s≤201→l.foldl (fun s a=>min (s+S.getD a 0) 201) s≤201:=by
  intro l
  induction l with
  |nil=>intro s h;exact h
  |cons a l ih=>intro s _;rw [List.foldl_cons];exact ih _ (Nat.min_le_right _ _)
 exact key args 1 (by decide)
theorem dpA_le (D args:List Nat) (n:Nat) (h:∀a∈args,D.getD a 0≤n):dpA D args≤n+1:=by
 have key:∀(l:List Nat) (d:Nat),(∀a∈l,D.getD a 0≤n)→d≤n+1→l.foldl (fun d a=>max d (D.getD a 0+1)) d≤n+1:=by
  intro l
  induction l with
  |nil=>intro d _ h;exact h
  |cons a l ih=>
   intro d hl hd
   rw [List.foldl_cons]
   exact ih _ (fun b hb=>hl b (List.mem_cons_of_mem _ hb)) (by have:=hl a (by simp);omega)
 exact key args 1 h (by omega)
theorem getD_app_lt (l m:List Nat) (i n:Nat) (hl:∀j,l.getD j 0≤n) (hm:∀x∈m,x≤n):(l++m).getD i 0≤n:=by
 rw [List.getD_eq_getElem?_getD,List.getElem?_append]
 split
 ·have:=hl i
  rw [List.getD_eq_getElem?_getD] at this
  exact this
 ·cases hc:m[i-l.length]? with
  |none=>simp
  |some y=>exact hm y (List.mem_of_getElem? hc)
theorem bigG_le {ns:List Nd} (hs:SoundG ns):∀i n,n≤ns.length→(bigG (ns.take n)).getD i 0≤201:=by
 intro i n
 induction n generalizing i with
 |zero=>intro _;rw [List.take_zero];show ([]:List Nat).getD i 0≤201;simp
 |succ n ih=>
  intro hn
  have hx:=hs.2 n _ (List.getElem?_eq_getElem (show n<ns.length by omega))
  rw [List.take_succ_eq_append_getElem (by omega),bigG_snoc _ _ hx]
  exact getD_app_lt _ _ _ _ (fun j=>ih j (by omega)) (fun x hx=>by rw [List.mem_singleton.1 hx];exact szA_le _ _)
theorem deepG_le {ns:List Nd} (hs:SoundG ns):∀i n,n≤ns.length→(deepG (ns.take n)).getD i 0≤n:=by
 intro i n
 induction n generalizing i with
 |zero=>intro _;rw [List.take_zero];show ([]:List Nat).getD i 0≤0;simp
 |succ n ih=>
  intro hn
  have hx:=hs.2 n _ (List.getElem?_eq_getElem (show n<ns.length by omega))
  rw [List.take_succ_eq_append_getElem (by omega),deepG_snoc _ _ hx]
  exact getD_app_lt _ _ _ _ (fun j=>Nat.le_succ_of_le (ih j (by omega))) (fun x hx=>by rw [List.mem_singleton.1 hx];exact dpA_le _ _ _ (fun a _=>ih a (by omega)))
def midL (L:List Nat) (v r:Nat):List Nat:=L++v::List.replicate r 0
theorem midL_set (L:List Nat) (v u r:Nat):(midL L v r).set L.length u=midL L u r:=by
 unfold midL
 rw [List.set_append_right _ _ (Nat.le_refl _),Nat.sub_self,List.set_cons_zero]
theorem midL_start (L:List Nat) (u m:Nat) (h:L.length<m):(L++List.replicate (m-L.length) 0).set L.length u=midL L u (m-(L.length+1)):=by
 unfold midL
 rw [List.set_append_right _ _ (Nat.le_refl _),Nat.sub_self,show m-L.length=(m-(L.length+1))+1 by omega,List.replicate_succ,List.set_cons_zero]
theorem midL_end (L:List Nat) (v r:Nat):midL L v r=(L++[v])++List.replicate r 0:=by unfold midL;simp
theorem midL_len (L:List Nat) (v r:Nat):(midL L v r).length=L.length+1+r:=by unfold midL;simp;omega
theorem midL_at (L:List Nat) (v r:Nat):(midL L v r).getD L.length 0=v:=by
 unfold midL
 rw [List.getD_eq_getElem?_getD,List.getElem?_append_right (Nat.le_refl _),Nat.sub_self]
 rfl
theorem midL_low (L:List Nat) (v r:Nat) {j:Nat} (h:j<L.length):(midL L v r).getD j 0=L.getD j 0:=by
 unfold midL
 rw [List.getD_eq_getElem?_getD,List.getD_eq_getElem?_getD,List.getElem?_append_left h]
end Big
end Go.Proofs.YtaccjdbbkmhanaaGreatDoor
namespace Go.Proofs.YtaccjdbbkmhanaaGreatDoor
namespace Big
open Go.RowKit
theorem two_makes (w:World) (cs:Array Value) (t:TypeId):Blk ((w.alloc (.cells cs t)).alloc (.cells cs t)).drew w.heap.size t cs∧Blk ((w.alloc (.cells cs t)).alloc (.cells cs t)).drew (w.heap.size+1) t cs∧Ext w ((w.alloc (.cells cs t)).alloc (.cells cs t)).drew:=by
 refine ⟨((Blk.new w t cs).ext ((Ext.refl _).alloc _)).drew,?_,(((Ext.refl w).alloc _).alloc _).drew⟩
 have h:=(Blk.new (w.alloc (.cells cs t)) t cs).drew
 simp only [World.size_alloc] at h
 exact h
set_option maxHeartbeats 8000000 in
set_option maxRecDepth 100000 in
theorem gsizes_any (B g b:Nat) (w:World) (ns:List Nd) (nv:Value) (h:GrP B g b w ns nv) (i:Nat) (hi:i<ns.length):
  Calls Tryz.prog 47 #[.pointer (some ⟨g,0,none⟩),.int .i64 (i:Int)] w fun e w'=>∃bs bd,e= .returned (.tuple #[.slice (some ⟨bs,0,none⟩) (i+1) (i+1),.slice (some ⟨bd,0,none⟩) (i+1) (i+1)])∧
   Blk w' bs 3 (cellsN (bigG (ns.take (i+1))))∧Blk w' bd 3 (cellsN (deepG (ns.take (i+1))))∧Ext w w':=by
 have hfew:=h.few
 have HOK:=Lib.hid h.ok
 obtain ⟨A,c,hrv,hcl⟩:=h.row.read
 subst hrv
 have HCL:=Lib.hid hcl
 have HG:=Lib.hid h
 clear hcl h
 obtain ⟨m,hm⟩:∃m,m=i+1:=⟨_,rfl⟩
 rw [←hm]
 have HMI:=Lib.hid hm
 have hm1:m≤4096:=by omega
 have hmn:m≤ns.length:=by omega
 have hmk:=run_makeN m (by omega)
 have hwm:IntKind.i64.wrap ((i:Int)+1)=(m:Int):=by rw [IntWalk.i64_in _ (by omega)];omega
 obtain ⟨k0,k1,f0,f1,hgz⟩:=HG.out.blk.twoG
 obtain ⟨n,hnn⟩:∃n,n=ns.length:=⟨_,rfl⟩
 have HN:=Lib.hid hnn
 rw [←hnn] at HG hfew k0 hmn
 clear hm hi hnn
 go_enter Tryz.func47,Tryz.ntmps47
 go_upto_region 1 with fail
 go_cut [6,7] from 13 to 18 (fun s6 s7 wx=>∃bs bd,s6= .slice (some ⟨bs,0,none⟩) m m∧s7= .slice (some ⟨bd,0,none⟩) m m∧bs≠bd∧w.heap.size≤bs∧w.heap.size≤bd∧Blk wx bs 3 (cellsN (List.replicate m 0))∧Blk wx bd 3 (cellsN (List.replicate m 0))∧Ext w wx)
 case first=>
  have HTM:=Lib.hid (two_makes w (cellsN (List.replicate m 0)) 3)
  go_region
  ·go_wp2_with fail
   go_meet
   exact ⟨_,_,rfl,rfl,by omega,by omega,by omega,HTM.out.1,HTM.out.2.1,HTM.out.2.2⟩
  ·go_wp2_with fail
   go_meet
   exact ⟨_,_,rfl,rfl,by omega,by omega,by omega,HTM.out.2.1,HTM.out.1,HTM.out.2.2⟩
 case rest=>
  obtain ⟨bs,bd,rfl,rfl,hbb,hbs,hbd,hb1,hb2,hx⟩:=hcut
  have HB1:=Lib.hid hb1
  have HB2:=Lib.hid hb2
  have HX:=Lib.hid hx
  generalize wc=w1 at *
  clear hb1 hb2 hx hmk hwm k0 k1 f0 f1
  go_wp2_with fail
  go_loopw [21] (fun s21 wr=>∃k:Nat,k≤m∧s21= .int .i64 (k:Int)∧Blk wr bs 3 (cellsN (bigG (ns.take k)++List.replicate (m-k) 0))∧Blk wr bd 3 (cellsN (deepG (ns.take k)++List.replicate (m-k) 0))∧Ext w wr) (fun s21 _=>m-(intOf s21).toNat)
  case atStart=>exact ⟨0,Nat.zero_le _,rfl,HB1.out,HB2.out,HX.out⟩
  case round=>
   clear HB1 HB2 HX
   obtain ⟨k,hk,rfl,hb1,hb2,hx⟩:=hrel
   by_cases hlt:k<m
   ·have hkn:k<ns.length:=by have:=HN.out;omega
    have hok:=HOK.out.2 k _ (List.getElem?_eq_getElem hkn)
    have hle:=HOK.out.take k
    have hlS:=bigG_len (ns.take k)
    have hlD:=deepG_len (ns.take k)
    rw [List.length_take,Nat.min_eq_left (by omega)] at hlS hlD
    have HBS:=Lib.hid (fun j=>bigG_le HOK.out j k (by omega))
    have HBD:=Lib.hid (fun j=>deepG_le HOK.out j k (by omega))
    have HNS:=Lib.hid (bigG_snoc (ns.take k) ns[k] hok)
    have HND:=Lib.hid (deepG_snoc (ns.take k) ns[k] hok)
    rw [List.take_append_getElem hkn] at HNS HND
    have HAL:=Lib.hid hok.args_lt
    have hal2:=hok.args_len
    have HGO:=Lib.hid (fun W=>gops_any W ns[k] hok)
    obtain ⟨gb,o,rfl,hgw,hc⟩:=HCL.out (by omega)
    obtain ⟨p0,p1,p2,p3,p4⟩:=hc k hkn
    obtain ⟨k0,k1,f0,f1,hgz⟩:=(HG.out.keep hx).blk.twoG
    generalize bigG (ns.take k)=SL at *
    generalize deepG (ns.take k)=DL at *
    generalize argsG ns[k]=zs at *
    have HX:=Lib.hid hx
    have hgbs:gb≠bs:=by omega
    have hgbd:gb≠bd:=by omega
    obtain ⟨r,hr⟩:∃r,r=m-(k+1):=⟨_,rfl⟩
    have hm1':(SL++List.replicate (m-k) 0).set k 1=midL SL 1 r:=by
     have:=midL_start SL 1 m (by omega)
     rw [hlS] at this
     rw [this,hr]
    have hm2':(DL++List.replicate (m-k) 0).set k 1=midL DL 1 r:=by
     have:=midL_start DL 1 m (by omega)
     rw [hlD] at this
     rw [this,hr]
    have hs1:Blk (wr.setCell ⟨bs,k,none⟩ (.int .i64 1)) bs 3 (cellsN (midL SL 1 r)):=by
     have h:=hb1.set_ k (.int .i64 ((1:Nat):Int))
     rw [set_cellsN,hm1'] at h
     exact h
    have hb2b:=hb2.far (p:=⟨bs,k,none⟩) (by show bd≠bs;omega) (.int .i64 1)
    have hs2:Blk ((wr.setCell ⟨bs,k,none⟩ (.int .i64 1)).setCell ⟨bd,k,none⟩ (.int .i64 1)) bd 3 (cellsN (midL DL 1 r)):=by
     have h:=hb2b.set_ k (.int .i64 ((1:Nat):Int))
     rw [set_cellsN,hm2'] at h
     exact h
    have hs1b:=hs1.far (p:=⟨bd,k,none⟩) (by show bs≠bd;exact hbb) (.int .i64 1)
    have hx4:=(hx.setCell (p:=⟨bs,k,none⟩) hbs (.int .i64 1)).setCell (p:=⟨bd,k,none⟩) hbd (.int .i64 1)
    obtain ⟨w4,hw4⟩:∃w4,w4=(wr.setCell ⟨bs,k,none⟩ (.int .i64 1)).setCell ⟨bd,k,none⟩ (.int .i64 1):=⟨_,rfl⟩
    rw [←hw4] at hs2 hs1b hx4
    have HS1:=Lib.hid hs1b
    have HS2:=Lib.hid hs2
    have HX4:=Lib.hid hx4
    have z1:=hb1.cell k
    rw [get_cellsN _ _ (by rw [List.length_append,List.length_replicate];omega)] at z1
    have z2:=hb2.cell k
    rw [get_cellsN _ _ (by rw [List.length_append,List.length_replicate];omega)] at z2
    have f3:=hb1.frozen k
    have f4:=hb2.frozen k
    have z2b:=hb2b.cell k
    rw [get_cellsN _ _ (by rw [List.length_append,List.length_replicate];omega)] at z2b
    have f4b:=hb2b.frozen k
    generalize (SL++List.replicate (m-k) 0).getD k 0=old1 at *
    generalize (DL++List.replicate (m-k) 0).getD k 0=old2 at *
    have hki:(k:Int)<(m:Int):=by omega
    have hk0:(0:Int)≤(k:Int):=by omega
    have hkn2:(k:Int)<(n:Int):=by omega
    have hwk:IntKind.i64.wrap ((k:Int)+1)=(k:Int)+1:=IntWalk.i64_in _ (by omega)
    clear hb1 hb2 hb2b hs1 hs2 hs1b hm1' hm2' hx hx4 hc hok hle
    go_upto_region 6 with fail
    rw [←hw4]
    clear hw4 z1 z2 z2b f3 f4 f4b k0 k1 f0 f1
    obtain ⟨k0,k1,f0,f1,hgz4⟩:=(HG.out.keep HX4.out).blk.twoG
    rw [←HX4.out.cell hgw] at p0 p1 p2 p3 p4
    have hx0:(⟨0,0,0,0,[]⟩:Nd).text=[]:=rfl
    generalize ns[k]=x at *
    clear hkn hx0
    obtain ⟨y0,y1,y2,y3,y4⟩:=x
    simp only [ndV] at HGO
    simp only at p0 p1 p2 p3 p4
    obtain ⟨s,hs⟩:∃s:ByteArray,s=⟨(y4:List UInt8).toArray⟩:=⟨_,rfl⟩
    have hst:str y4= .string s:=by rw [hs];rfl
    rw [hst] at p4 HGO
    clear hs hst
    obtain ⟨mz,hmz⟩:∃mz,mz=zs.length:=⟨_,rfl⟩
    have HMZ:=Lib.hid hmz
    rw [←hmz] at hal2
    have HZ:Hid (∀j,j<mz→zs.getD j 0<k):=Lib.hid (fun j hj=>by
     rw [List.getD_eq_getElem?_getD,List.getElem?_eq_getElem (by omega)]
     exact HAL.out _ (List.getElem_mem _))
    have HTK:Hid (∀j,j<mz→zs.take (j+1)=zs.take j++[zs.getD j 0]):=Lib.hid (fun j hj=>by
     rw [List.take_succ_eq_append_getElem (by omega),List.getD_eq_getElem?_getD,List.getElem?_eq_getElem (by omega)]
     rfl)
    clear hmz
    go_wp2_with fail
    refine (HGO.out w4).mono ?_
    rintro e w5 ⟨A3,c3,rfl,hx5,hc3⟩
    rw [←HMZ.out] at hc3 ⊢
    have HX5:=Lib.hid (HX4.out.trans hx5)
    have HS15:=Lib.hid (HS1.out.ext hx5)
    have HS25:=Lib.hid (HS2.out.ext hx5)
    have hs4:bs<w4.heap.size:=HS1.out.lt
    have hd4:bd<w4.heap.size:=HS2.out.lt
    have HA5:Hid (∀j,j<mz→∃b3,A3=some ⟨b3,0,none⟩∧b3≠bs∧b3≠bd∧w5.cell? ⟨b3,j,none⟩=some (.int .i64 ((zs.getD j 0:Nat):Int))):=Lib.hid (fun j hj=>by
     obtain ⟨b3,h1,h2,h3,h4⟩:=hc3 (by omega)
     exact ⟨b3,h1,by omega,by omega,h4 j hj⟩)
    clear p0 p1 p2 p3 p4 k0 k1 f0 f1 hx5 hc3 HGO
    go_wp2_with fail
    generalize wr=wa at *
    go_loopw [43] (fun s43 wr=>∃q:Nat,q≤mz∧s43= .int .i64 (q:Int)∧Blk wr bs 3 (cellsN (midL SL (szA SL (zs.take q)) r))∧Blk wr bd 3 (cellsN (midL DL (dpA DL (zs.take q)) r))∧Ext w wr∧(∀j,j<mz→∃b3,A3=some ⟨b3,0,none⟩∧b3≠bs∧b3≠bd∧wr.cell? ⟨b3,j,none⟩=some (.int .i64 ((zs.getD j 0:Nat):Int)))) (fun s43 _=>mz-(intOf s43).toNat)
    case atStart=>exact ⟨0,Nat.zero_le _,rfl,HS15.out,HS25.out,HX5.out,HA5.out⟩
    case round=>
     clear HS15 HS25 HX5 HA5 HS1 HS2 HX4 HX
     obtain ⟨q,hq,rfl,hb1,hb2,hx,hca⟩:=hrel
     by_cases hqz:q<mz
     ·obtain ⟨b3,rfl,hn1,hn2,hcell⟩:=hca q hqz
      have HCA:=Lib.hid hca
      have hlow:=HZ.out q hqz
      have hv1:=szA_snoc SL (zs.take q) (zs.getD q 0)
      have hv2:=dpA_snoc DL (zs.take q) (zs.getD q 0)
      rw [←HTK.out q hqz] at hv1 hv2
      have hb1a:=HBS.out (zs.getD q 0)
      have hb1b:=szA_le SL (zs.take q)
      have hb2a:=HBD.out (zs.getD q 0)
      have hb2b:dpA DL (zs.take q)≤k+1:=dpA_le DL _ k (fun a _=>HBD.out a)
      have hl1:=midL_len SL (szA SL (zs.take q)) r
      have hl2:=midL_len DL (dpA DL (zs.take q)) r
      have z1:=hb1.cell k
      rw [get_cellsN _ _ (by omega),show (midL SL (szA SL (zs.take q)) r).getD k 0=szA SL (zs.take q) by rw [←hlS];exact midL_at _ _ _] at z1
      have z2:=hb1.cell (zs.getD q 0)
      rw [get_cellsN _ _ (by omega),midL_low _ _ _ (by omega)] at z2
      have z3:=hb2.cell k
      rw [get_cellsN _ _ (by omega),show (midL DL (dpA DL (zs.take q)) r).getD k 0=dpA DL (zs.take q) by rw [←hlD];exact midL_at _ _ _] at z3
      have z4:=hb2.cell (zs.getD q 0)
      rw [get_cellsN _ _ (by omega),midL_low _ _ _ (by omega)] at z4
      have f1:=hb1.frozen k
      have f2:=hb2.frozen k
      have hms:∀u,(midL SL (szA SL (zs.take q)) r).set k u=midL SL u r:=fun u=>by rw [←hlS];exact midL_set _ _ _ _
      have hmd:∀u,(midL DL (dpA DL (zs.take q)) r).set k u=midL DL u r:=fun u=>by rw [←hlD];exact midL_set _ _ _ _
      have HF1:Hid (∀u:Nat,Blk (wr.setCell ⟨bs,k,none⟩ (.int .i64 (u:Int))).drew bs 3 (cellsN (midL SL u r))∧Blk (wr.setCell ⟨bs,k,none⟩ (.int .i64 (u:Int))).drew bd 3 (cellsN (midL DL (dpA DL (zs.take q)) r))∧Ext w (wr.setCell ⟨bs,k,none⟩ (.int .i64 (u:Int))).drew∧(∀b3 j,b3≠bs→(wr.setCell ⟨bs,k,none⟩ (.int .i64 (u:Int))).drew.cell? ⟨b3,j,none⟩=wr.cell? ⟨b3,j,none⟩)):=Lib.hid (fun u=>by
       have h:=hb1.set_ k (.int .i64 (u:Int))
       rw [set_cellsN,hms] at h
       exact ⟨h.drew,(hb2.far (p:=⟨bs,k,none⟩) (by show bd≠bs;omega) _).drew,(hx.setCell (p:=⟨bs,k,none⟩) hbs _).drew,fun b3 j hne=>World.cell?_of_block (a:=⟨b3,j,none⟩) (Below.heap_setCell _ _ _ b3 hne)⟩)
      have HF2:Hid (∀(W:World) (u:Nat),Blk W bd 3 (cellsN (midL DL (dpA DL (zs.take q)) r))→Blk (W.setCell ⟨bd,k,none⟩ (.int .i64 (u:Int))).drew bd 3 (cellsN (midL DL u r))):=Lib.hid (fun W u hb=>by
       have h:=hb.set_ k (.int .i64 (u:Int))
       rw [set_cellsN,hmd] at h
       exact h.drew)
      have HX:=Lib.hid hx
      have HB2:=Lib.hid hb2
      have HV1:=Lib.hid hv1
      have HV2:=Lib.hid hv2
      clear hv1 hv2 hms hmd hca hb1 hb2 hx hl1 hl2
      generalize hsv:szA SL (zs.take q)=s1 at *
      generalize hdv:dpA DL (zs.take q)=d1 at *
      generalize hsa:SL.getD (zs.getD q 0) 0=sa at *
      generalize hda:DL.getD (zs.getD q 0) 0=da at *
      generalize hza:zs.getD q 0=za at *
      clear hsv hdv hsa hda hza
      have hw4:IntKind.i64.wrap ((s1:Int)+(sa:Int))=(s1:Int)+(sa:Int):=IntWalk.i64_in _ (by omega)
      have hw5:IntKind.i64.wrap ((da:Int)+1)=(da:Int)+1:=IntWalk.i64_in _ (by omega)
      have hmn1:min ((s1:Int)+(sa:Int)) 201=((min (s1+sa) 201:Nat):Int):=by omega
      have hmx1:max (d1:Int) ((da:Int)+1)=((max d1 (da+1):Nat):Int):=by omega
      have hmx2:(if (d1:Int)<(da:Int)+1 then (da:Int)+1 else (d1:Int))=((max d1 (da+1):Nat):Int):=by split<;>omega
      obtain ⟨s2,hs2⟩:∃s2,s2=min (s1+sa) 201:=⟨_,rfl⟩
      obtain ⟨d2,hd2⟩:∃d2,d2=max d1 (da+1):=⟨_,rfl⟩
      rw [←hs2] at hmn1 HV1
      rw [←hd2] at hmx1 hmx2 HV2
      have hq0:(0:Int)≤(q:Int):=by omega
      have hqm:(q:Int)<(mz:Int):=by omega
      have hza0:(0:Int)≤(za:Int):=by omega
      have hzam:(za:Int)<(m:Int):=by omega
      have hwq:IntKind.i64.wrap ((q:Int)+1)=(q:Int)+1:=IntWalk.i64_in _ (by omega)
      have HG1:=Lib.hid (HF1.out s2)
      have z3b:=(HG1.out.2.1.cell k).trans ((HB2.out.cell k).symm.trans z3)
      have z4b:=(HG1.out.2.1.cell za).trans ((HB2.out.cell za).symm.trans z4)
      have f2b:=HG1.out.2.1.frozen k
      have HG2:=Lib.hid (HF2.out _ d2 HG1.out.2.1)
      clear hs2 hd2 hb1a hb1b hb2a hb2b HF1
      go_upto_region 10 with fail
      go_region
      all_goals
       go_upto_region 11 with fail
       go_region
       all_goals
        go_wp2_with fail
        go_roundw
        case rel=>
         refine ⟨q+1,hqz,by go_num,?_,?_,?_,fun j hj=> ?_⟩
         ·rw [HV1.out]
          exact (HG1.out.1.far (p:=⟨bd,k,none⟩) (by show bs≠bd;exact hbb) (.int .i64 (d2:Int))).drew
         ·rw [HV2.out]
          exact HG2.out
         ·exact (HG1.out.2.2.1.setCell (p:=⟨bd,k,none⟩) hbd (.int .i64 (d2:Int))).drew
         ·obtain ⟨b4,e4,p1,p2,p3⟩:=HCA.out j hj
          exact ⟨b4,e4,p1,p2,(World.cell?_of_block (a:=⟨b4,j,none⟩) (Below.heap_setCell _ _ _ b4 p2)).trans ((HG1.out.2.2.2 b4 j p1).trans p3)⟩
        case measure=>simp [intOf];omega
     ·obtain rfl:q=mz:=by omega
      have HX:=Lib.hid hx
      have hb1':Blk wr bs 3 (cellsN (bigG (ns.take (k+1))++List.replicate (m-(k+1)) 0)):=by
       rw [HNS.out,←hr,←midL_end]
       have h:=hb1
       rw [HMZ.out,List.take_length] at h
       exact h
      have hb2':Blk wr bd 3 (cellsN (deepG (ns.take (k+1))++List.replicate (m-(k+1)) 0)):=by
       rw [HND.out,←hr,←midL_end]
       have h:=hb2
       rw [HMZ.out,List.take_length] at h
       exact h
      have HB1:=Lib.hid hb1'
      have HB2:=Lib.hid hb2'
      clear hb1 hb2 hb1' hb2' hx hca
      go_wp2_with fail
      go_roundw
      case rel=>exact ⟨k+1,hlt,by go_num,HB1.out,HB2.out,HX.out⟩
      case measure=>simp [intOf];omega
   ·obtain rfl:k=m:=by omega
    rw [Nat.sub_self,List.replicate_zero,List.append_nil] at hb1 hb2
    have HE:=Lib.hid (And.intro hb1 (And.intro hb2 hx))
    clear hb1 hb2 hx
    go_wp2_with fail
    go_ret2
    exact ⟨bs,bd,rfl,HE.out⟩
end Big
end Go.Proofs.YtaccjdbbkmhanaaGreatDoor
