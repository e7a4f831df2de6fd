import Derived.Test.YtkoaogkknnelaaaGreatDoorM29
import Derived.Sort.KeysCollected
set_option linter.unusedVariables false
set_option linter.unusedSimpArgs false
set_option maxHeartbeats 4000000
set_option maxRecDepth 100000
namespace Go.Proofs.YtkoaogkknnelaaaGreatDoor
namespace Big
open Lib renaming hid → J
open Go.RowKit
open Go.RowKit Go.Maps Go.Sort
def Dx(w:World)(b m:Nat)(S:Tx->Prop):Prop:=∃D:DataW Unit,w.ownsMap Tryz.prog 9 (plainElem Tryz.prog 4) b m D/\∀t,has D (.string t)=true↔S t
theorem Dx.made(w:World):Dx (w.alloc (.map #[] 0)) w.heap.size 0 (fun _=>False):=
 ⟨.map [],World.ownsMap_made w _ _ _,fun t=>⟨fun h=>Bool.noConfusion h,fun h=>h.elim⟩⟩
theorem Dx.lt{w:World}{b m:Nat}{S:Tx->Prop}(h:Dx w b m S):b<w.heap.size:=by
 obtain⟨D,h,_⟩:=h;exact h.lt
theorem Dx.at{w w':World}{b m:Nat}{S:Tx->Prop}(h:Dx w b m S)(hk:w'.heap[b]? =w.heap[b]?):Dx w' b m S:=by
 obtain⟨D,⟨es,clock,hb,F,hs,hD⟩,h2⟩:=h;exact⟨D,⟨es,clock,hk.trans hb,F,hs,hD⟩,h2⟩
theorem Dx.ext{w w':World}{b m:Nat}{S:Tx->Prop}(h:Dx w b m S)(hx:Ext w w'):Dx w' b m S:=h.at (hx.block b h.lt)
theorem Dx.mono{w:World}{b m m':Nat}{S:Tx->Prop}(h:Dx w b m S)(hm:m<=m'):Dx w b m' S:=by
 obtain⟨D,h,h2⟩:=h;exact⟨D,h.mono hm,h2⟩
theorem Dx.congr{w:World}{b m:Nat}{S S':Tx->Prop}(h:Dx w b m S)(hs:∀t,S t↔S' t):Dx w b m S':=by
 obtain⟨D,h,h2⟩:=h;exact⟨D,h,fun t=>(h2 t).trans (hs t)⟩
theorem EZ(t:Tx)(ht:t.length<=maxLen):keyOf Tryz.prog 9 (str t)=some (.string t):=by
 have hs:(⟨t.toArray⟩:ByteArray).size<=maxLen:=by rw[Cc];exact ht
 unfold keyOf;rw[Tryz.underlying9];simp[str,mapKey,Tryz.underlying9,hs]
theorem Dx.store{w:World}{b m:Nat}{S:Tx->Prop}(h:Dx w b m S)(hm:m<maxLen)(t:Tx)(ht:t.length<=maxLen):
  ∃w',(Instr.mapUpdate 151 (.map (some b)) (str t) (.bool true)).run Tryz.prog w= .ok () w'/\Dx w' b (m+1) (fun x=>x=t\/S x)/\w.grownBy w' (some b):=by
 obtain⟨D,h,h2⟩:=h;obtain⟨w',hr,ho,hg⟩:=h.update (string_keyed Tryz.underlying9) Tryz.underlying151 hm (EZ t ht) (plainElem_bool Tryz.underlying4 true);refine⟨w',hr,⟨_,ho,fun x=> ?_⟩,hg⟩;by_cases hx:x=t
 ·subst hx;rw[has_put_same h.isMap (by trivial)];simp
 ·rw[has_put_other (by intro e;injection e with e;exact hx e),h2 x];simp[hx]
theorem Dx.keys{w:World}{b m:Nat}{D:DataW Unit}(h:w.ownsMap Tryz.prog 9 (plainElem Tryz.prog 4) b m D)(t:Tx):t∈strKeys D↔has D (.string t)=true:=by
 obtain⟨es,rfl,hk⟩:=h.keysOf;rw[has_eq,List.any_eq_true];show t∈es.map (fun p=>strOf p.1)↔_;rw[List.mem_map];constructor
 ·rintro⟨p,hp,rfl⟩;obtain⟨v,hv⟩:=hk p hp;obtain⟨x,_,hx,_⟩:=Maps.keyOf_str Tryz.underlying9 hv;exact⟨p,hp,by rw[hx];simp[Lit.sameKey,strOf]⟩
 ·rintro⟨p,hp,hs⟩;obtain⟨v,hv⟩:=hk p hp;obtain⟨x,_,hx,_⟩:=Maps.keyOf_str Tryz.underlying9 hv;rw[hx]at hs;exact⟨p,hp,by rw[hx];simpa [Lit.sameKey,strOf] using hs⟩
def Bn(l:List Bool):Array Value:=(l.map Value.bool).toArray
theorem DF(l:List Bool)(i:Nat)(x:Bool):(Bn l).setIfInBounds i (.bool x)=Bn (l.set i x):=by
 apply Array.ext';simp[Bn,List.map_set]
theorem B6(l:List Bool)(i:Nat)(h:i<l.length):(Bn l)[i]? =some (.bool (l.getD i false)):=by
 unfold Bn;rw[List.getElem?_toArray,List.getElem?_map,List.getD_eq_getElem?_getD,List.getElem?_eq_getElem h];rfl
theorem Qj:(Tryz.prog.info? 4).map (fun i=>(i.zero,i.size,i.bytes))=some (some (.bool false),1,1):=by kernel_rfl
theorem KA(n:Nat)(hn:n<=1000000)(W:World):(Instr.makeSlice 133 (.int .i64 (n:Int)) (.int .i64 (n:Int))).run Tryz.prog W=
  .ok (.slice (some ⟨W.heap.size,0,none⟩) n n) (W.alloc (.cells (Bn (List.replicate n false)) 4)):=by
 obtain⟨i0,hi,aU,hz1,a9⟩:=info_parts Qj;have hr:=run_make (P:=Tryz.prog) W 133 4 i0 _ Tryz.underlying133 hi aU .i64 .i64 (n:Int) (n:Int) (by omega) (Int.le_refl _) (by rw[a9];omega) (by omega);have hm:madeCells (Value.cells (.bool false)) (n*1)=Bn (List.replicate n false):=by
  apply Array.ext';apply List.ext_getElem?;intro i;simp only[madeCells,Bn,Value.cells];rw[Array.getElem?_toList,Array.getElem?_map,List.getElem?_map,List.getElem?_replicate];rcases Nat.lt_or_ge i n with h|h
  ·rw[Array.getElem?_range,if_pos (by omega),if_pos h];simp[Nat.mod_one]
  ·rw[Array.getElem?_range,if_neg (by omega),if_neg (by omega)];rfl
 rw[hz1,Int.toNat_natCast,hm]at hr;exact hr
abbrev Env:=List (Tx × Int)
def Ao:Env->Tx->Int
 |[],_=> -1
 |b::l,t=>if b.1=t then b.2 else Ao l t
theorem Fm{env:Env}{t:Tx}(h:∀b∈env,b.1≠t):Ao env t= -1:=by
 induction env with
 |nil=>rfl
 |cons b l ih=>
  rw[Ao,if_neg (h b (by simp))];exact ih (fun c hc=>h c (List.mem_cons_of_mem _ hc))
theorem K7{env:Env}{t:Tx}(h:Ao env t≠-1):(t,Ao env t)∈env:=by
 induction env with
 |nil=>exact absurd rfl h
 |cons b l ih=>
  rw[Ao]at h ⊢;by_cases hb:b.1=t
  ·rw[if_pos hb];subst hb;exact List.mem_cons_self
  ·rw[if_neg hb]at h ⊢;exact List.mem_cons_of_mem _ (ih h)
def DB(env:Env):Prop:=Asc (env.map (·.1))
theorem M3{env:Env}(ha:DB env){b:Tx × Int}(h:b∈env):Ao env b.1=b.2:=by
 induction env with
 |nil=>cases h
 |cons c l ih=>
  unfold DB Asc at ha;rw[List.map_cons,List.pairwise_cons]at ha;rw[Ao];rcases List.mem_cons.1 h with rfl|h
  ·rw[if_pos rfl]
  ·have hlt:=ha.1 b.1 (List.mem_map_of_mem h);rw[if_neg (fun e=>by rw[e]at hlt;exact Bt _ hlt)];exact ih ha.2 h
theorem H8(a b:Env)(t:Tx):Ao (a++b) t=if (∃x∈a,x.1=t) then Ao a t else Ao b t:=by
 induction a with
 |nil=>rw[if_neg (by rintro⟨x,hx,_⟩;cases hx)];rfl
 |cons x l ih=>
  rw[List.cons_append,Ao,Ao];by_cases hx:x.1=t
  ·rw[if_pos hx,if_pos hx,if_pos ⟨x,by simp,hx⟩]
  ·rw[if_neg hx,if_neg hx,ih];by_cases hl:∃y∈l,y.1=t
   ·obtain⟨y,hy,he⟩:=hl;rw[if_pos ⟨y,hy,he⟩,if_pos ⟨y,List.mem_cons_of_mem _ hy,he⟩]
   ·rw[if_neg hl,if_neg];rintro⟨y,hy,he⟩;rcases List.mem_cons.1 hy with rfl|hy
    ·exact hx he
    ·exact hl ⟨y,hy,he⟩
inductive AA (ns:List Nd) (env:Env) (T:Tx->Prop):Tx->Prop where
 |here {t:Tx}:T t->AA ns env T t
 |step {t s:Tx}:AA ns env T t->0<=Ao env t->AB ns (Ao env t).toNat s->AA ns env T s
theorem AA.mono{ns:List Nd}{env:Env}{T T':Tx->Prop}(h:∀t,T t->T' t){t:Tx}(hr:AA ns env T t):AA ns env T' t:=by
 induction hr with
 |here ht=>exact .here (h _ ht)
 |step _ h1 h2 ih=>exact .step ih h1 h2
theorem AA.trans{ns:List Nd}{env:Env}{T T':Tx->Prop}(h:∀t,T t->AA ns env T' t){t:Tx}(hr:AA ns env T t):AA ns env T' t:=by
 induction hr with
 |here ht=>exact h _ ht
 |step _ h1 h2 ih=>exact .step ih h1 h2
theorem AA.inside{ns:List Nd}{env:Env}{T S:Tx->Prop}(h0:∀t,T t->S t)(h1:∀t s,S t->0<=Ao env t->AB ns (Ao env t).toNat s->S s){t:Tx}(hr:AA ns env T t):S t:=by
 induction hr with
 |here ht=>exact h0 _ ht
 |step _ h2 h3 ih=>exact h1 _ _ ih h2 h3
def B2(ns:List Nd)(env:Env)(i:Nat):Tx->Prop:=AA ns env (AB ns i)
def B8(ns:List Nd)(env:Env)(i:Nat):Prop:=∀t,B2 ns env i t->0<=Ao env t
structure Ct (ns:List Nd) (env:Env):Prop where
 few:env.length<=64
 name:∀b∈env,Cs b.1=true
 node:∀b∈env,0<=b.2/\b.2<(ns.length:Int)
 asc:DB env
structure AO (ns:List Nd) (env:Env):Prop where
 ok:Ct ns env
 bound:∀b∈env,B8 ns env b.2.toNat
 free:∀b∈env,¬B2 ns env b.2.toNat b.1
theorem Ct.find{ns:List Nd}{env:Env}(h:Ct ns env){t:Tx}(ht:0<=Ao env t):(t,Ao env t)∈env/\(Ao env t).toNat<ns.length:=by
 have hm:=K7 (env:=env) (t:=t) (by omega);have:=h.node _ hm;exact⟨hm,by simp only at this;omega⟩
theorem Ct.nil(ns:List Nd):Ct ns []:=⟨by simp,(fun b h=>by cases h),(fun b h=>by cases h),by simp[DB,Asc]⟩
theorem AO.nil(ns:List Nd):AO ns []:=⟨Ct.nil ns,(fun b h=>by cases h),(fun b h=>by cases h)⟩
theorem J4{ns ms:List Nd}(h:ns <+: ms){i:Nat}(hi:i<ns.length):B7 ms i=B7 ns i:=by
 unfold B7;rw[List.getElem?_eq_getElem hi,AJ h (List.getElem?_eq_getElem hi)]
theorem Bj.pre{ns ms:List Nd}(hs:Aw ns)(h:ns <+: ms){i j:Nat}(hi:i<ns.length):Bj ms i j↔Bj ns i j:=by
 constructor
 ·intro hr
  induction hr with
  |here=>exact .here
  | @down q a _ ha ih=>
    have:=ih.le hs;exact ih.down (by rw[J4 h (by omega)]at ha;exact ha)
 ·intro hr
  induction hr with
  |here=>exact .here
  | @down q a hq ha ih=>
    have:=hq.le hs;exact ih.down (by rw[J4 h (by omega)];exact ha)
theorem AB.pre{ns ms:List Nd}(hs:Aw ns)(h:ns <+: ms){i:Nat}(hi:i<ns.length)(t:Tx):AB ms i t↔AB ns i t:=by
 unfold AB;constructor
 ·rintro⟨j,x,hr,hx,h1,h2⟩;have hr2:=(Bj.pre hs h hi).1 hr;have:=hr2.le hs;have hj:j<ns.length:=by omega
  refine⟨j,x,hr2,?_,h1,h2⟩;rw[AJ h (List.getElem?_eq_getElem hj)]at hx;rw[List.getElem?_eq_getElem hj,hx]
 ·rintro⟨j,x,hr,hx,h1,h2⟩;exact⟨j,x,(Bj.pre hs h hi).2 hr,AJ h hx,h1,h2⟩
theorem AA.pre{ns ms:List Nd}{env:Env}(hs:Aw ns)(h:ns <+: ms)(he:Ct ns env){T:Tx->Prop}(t:Tx):AA ms env T t↔AA ns env T t:=by
 constructor
 ·intro hr
  induction hr with
  |here ht=>exact .here ht
  |step _ h1 h2 ih=>exact .step ih h1 ((AB.pre hs h (he.find h1).2 _).1 h2)
 ·intro hr
  induction hr with
  |here ht=>exact .here ht
  |step _ h1 h2 ih=>exact .step ih h1 ((AB.pre hs h (he.find h1).2 _).2 h2)
theorem B2.pre{ns ms:List Nd}{env:Env}(hs:Aw ns)(h:ns <+: ms)(he:Ct ns env){i:Nat}(hi:i<ns.length)(t:Tx):B2 ms env i t↔B2 ns env i t:=by
 unfold B2;rw[AA.pre hs h he];exact⟨AA.mono fun t=>(AB.pre hs h hi t).1,AA.mono fun t=>(AB.pre hs h hi t).2⟩
theorem Ct.pre{ns ms:List Nd}{env:Env}(h:ns <+: ms)(he:Ct ns env):Ct ms env:=
 ⟨he.few,he.name,fun b hb=>by have:=he.node b hb;have:=h.length_le;omega,he.asc⟩
theorem AO.pre{ns ms:List Nd}{env:Env}(hs:Aw ns)(h:ns <+: ms)(he:AO ns env):AO ms env:=by
 refine⟨he.ok.pre h,fun b hb t ht=> ?_,fun b hb ht=> ?_⟩
 ·have:=he.ok.node b hb;exact he.bound b hb t ((B2.pre hs h he.ok (by omega) t).1 ht)
 ·have:=he.ok.node b hb;exact he.free b hb ((B2.pre hs h he.ok (by omega) _).1 ht)
theorem En{α:Type}[BEq α][LawfulBEq α]{l:List α}(hn:l.Nodup):∀{m:List α},(∀x∈l,x∈m)->l.length<=m.length:=by
 induction l with
 |nil=>intro m _;exact Nat.zero_le _
 |cons x l ih=>
  intro m h;rw[List.nodup_cons]at hn;have hx:x∈m:=h x (by simp);have h2:=ih hn.2 (m:=m.erase x) (fun y hy=>by
   have hne:y≠x:=fun e=>hn.1 (e ▸ hy)
   exact(List.mem_erase_of_ne hne).2 (h y (List.mem_cons_of_mem _ hy)))
  rw[List.length_erase_of_mem hx]at h2;have:0<m.length:=List.length_pos_of_mem hx;rw[List.length_cons];omega
theorem Asc.nodup{l:List Tx}(h:Asc l):l.Nodup:=List.Pairwise.imp (fun {a b} (vW:a<b) e=>by subst e;exact Bt _ vW) h
theorem R8{l m:List Tx}(hl:Asc l)(hm:Asc m)(h:∀x∈l,x∈m)(hle:m.length<=l.length):l=m:=by
 refine Hl hl hm (fun x=>⟨h x,fun hx=> ?_⟩);refine Classical.byContradiction fun hno=> ?_
 have h2:=En (l:=x::l) (List.nodup_cons.2 ⟨hno,hl.nodup⟩) (m:=m) (fun y hy=>by
  rcases List.mem_cons.1 hy with rfl|hy
  ·exact hx
  ·exact h y hy)
 rw[List.length_cons]at h2;omega
def CA(ns:List Nd):List Tx:=ns.map (·.text)
theorem AB.mem{ns:List Nd}{i:Nat}{t:Tx}(h:AB ns i t):t∈CA ns:=by
 obtain⟨j,x,_,hx,_,rfl⟩:=h;exact List.mem_map_of_mem (List.mem_of_getElem? hx)
theorem Dw.len{ns:List Nd}{i:Nat}{l:List Tx}(h:Dw ns i l):l.length<=ns.length:=by
 have:=En h.1.nodup (m:=CA ns) (fun t ht=>((h.2 t).1 ht).mem);unfold CA at this;rw[List.length_map]at this;exact this
theorem AA.mem{ns:List Nd}{env:Env}{T:Tx->Prop}{t:Tx}(h:AA ns env T t):T t\/t∈CA ns:=by
 cases h with
 |here h=>exact .inl h
 |step _ _ h=>exact .inr h.mem
def AS(K E:TypeId)(w:World)(b m:Nat)(f:Lit->Option Lit):Prop:=∃D:DataW Unit,w.ownsMap Tryz.prog K (plainElem Tryz.prog E) b m D/\(∀k zd,D.atKey k zd=(f k).elim zd DataW.lit)/\∀k,has D k=(f k).isSome
section
variable {K E T:TypeId} {w w':World} {b m:Nat} {f:Lit->Option Lit}
theorem AS.made(K E:TypeId)(w:World):AS K E (w.alloc (.map #[] 0)) w.heap.size 0 (fun _=>none):=
 ⟨.map [],World.ownsMap_made w _ _ _,fun _ _=>rfl,fun _=>rfl⟩
theorem AS.lt(h:AS K E w b m f):b<w.heap.size:=by
 obtain⟨D,h,_⟩:=h;exact h.lt
theorem AS.at(h:AS K E w b m f)(hk:w'.heap[b]? =w.heap[b]?):AS K E w' b m f:=by
 obtain⟨D,⟨es,clock,hb,F,hs,hD⟩,h2⟩:=h;exact⟨D,⟨es,clock,hk.trans hb,F,hs,hD⟩,h2⟩
theorem AS.ext(h:AS K E w b m f)(hx:Ext w w'):AS K E w' b m f:=h.at (hx.block b h.lt)
theorem AS.mono{m':Nat}(h:AS K E w b m f)(hm:m<=m'):AS K E w b m' f:=by
 obtain⟨D,h,h2⟩:=h;exact⟨D,h.mono hm,h2⟩
theorem AS.congr{f':Lit->Option Lit}(h:AS K E w b m f)(hf:∀k,f k=f' k):AS K E w b m f':=by
 obtain⟨D,h,h2,h3⟩:=h;exact⟨D,h,fun k zd=>by rw[h2,hf],fun k=>by rw[h3,hf]⟩
open Classical in
theorem AS.put(law:Keyed Tryz.prog K)(ht:Tryz.prog.underlying T=some (.map K E))(h:AS K E w b m f)(hm:m<maxLen){key val:Value}{kl d:Lit}(hkey:keyOf Tryz.prog K key=some kl)(hv:plainElem (H:=Unit) Tryz.prog E val=some (.lit d,[])):
  ∃w',(Instr.mapUpdate T (.map (some b)) key val).run Tryz.prog w= .ok () w'/\AS K E w' b (m+1) (fun x=>if x=kl then some d else f x)/\w.grownBy w' (some b):=by
 obtain⟨D,h,h2,h3⟩:=h;obtain⟨w',hr,ho,hg⟩:=h.update law ht hm hkey hv;refine⟨w',hr,⟨_,ho,fun x zd=> ?_,fun x=> ?_⟩,hg⟩
 ·by_cases hx:x=kl
  ·subst hx;show _=Option.elim (if x=x then _ else _) _ _;rw[atKey_put_same h.isMap (law.key hkey),if_pos rfl];rfl
  ·show _=Option.elim (if x=kl then _ else _) _ _;rw[atKey_put_other hx,if_neg hx,h2]
 ·by_cases hx:x=kl
  ·subst hx;show _=Option.isSome (if x=x then _ else _);rw[has_put_same h.isMap (law.key hkey),if_pos rfl];rfl
  ·show _=Option.isSome (if x=kl then _ else _);rw[has_put_other hx,if_neg hx,h3]
open Classical in
theorem AS.del(law:Keyed Tryz.prog K)(ht:Tryz.prog.underlying T=some (.map K E))(h:AS K E w b m f){key:Value}{kl:Lit}(hkey:keyOf Tryz.prog K key=some kl)(ty:TypeId):
  ∃w',(Builtin.delete_ #[T,K] ty #[.map (some b),key]).run Tryz.prog w= .ok (.tuple #[]) w'/\AS K E w' b m (fun x=>if x=kl then none else f x)/\w.grownBy w' (some b):=by
 obtain⟨D,h,h2,h3⟩:=h;obtain⟨w',hr,ho,hg⟩:=h.drop law ht hkey ty;refine⟨w',hr,⟨_,ho,fun x zd=> ?_,fun x=> ?_⟩,hg.grown⟩
 ·by_cases hx:x=kl
  ·subst hx;show _=Option.elim (if x=x then _ else _) _ _;rw[atKey_del_same,if_pos rfl];rfl
  ·show _=Option.elim (if x=kl then _ else _) _ _;rw[atKey_del_other hx,if_neg hx,h2]
 ·by_cases hx:x=kl
  ·subst hx;show _=Option.isSome (if x=x then _ else _);rw[has_del_same,if_pos rfl];rfl
  ·show _=Option.isSome (if x=kl then _ else _);rw[has_del_other hx,if_neg hx,h3]
theorem AS.look_int(law:Keyed Tryz.prog K)(ht:Tryz.prog.underlying T=some (.map K 3))(h:AS K 3 w b m f){key:Value}{kl:Lit}(hkey:keyOf Tryz.prog K key=some kl):
  ∃c:Int,(Instr.lookup T (.map (some b)) key true).run Tryz.prog w= .ok (.tuple #[.int .i64 c,.bool (f kl).isSome]) w/\(Instr.lookup T (.map (some b)) key false).run Tryz.prog w= .ok (.int .i64 c) w/\((f kl).elim (Lit.int .i64 0) id= .int .i64 c):=by
 obtain⟨D,h,h2,h3⟩:=h;have hz:(zeroValue 3).run Tryz.prog w= .ok (.int .i64 0) w:=by kernel_rfl
 have no:plainElem (H:=Unit) Tryz.prog 3 (.int .i64 0)=some (.lit (.int .i64 0),[]):=plainElem_int Tryz.underlying3 (by decide);obtain⟨v,ps,hr,hv⟩:=h.look_ok law ht hz no hkey;obtain⟨v',ps',pz,uz⟩:=h.lookup law ht hz no hkey;obtain⟨c,rfl,hc,_⟩:=plainElem_int_inv Tryz.underlying3 hv;obtain⟨c',rfl,hc',_⟩:=plainElem_int_inv Tryz.underlying3 uz;simp only[Prod.mk.injEq]at hc hc';have h4:=h2 kl (.lit (.int .i64 0));have e1:(f kl).elim (Lit.int .i64 0) id= .int .i64 c:=by
  cases hf:f kl with
  |none=>rw[hf,hc.1]at h4;simpa using h4.symm
  |some d=>rw[hf,hc.1]at h4;simpa using h4.symm
 have e2:c=c':=by
  have:=hc.1.symm.trans hc'.1
  simpa using this
 subst e2;exact⟨c,by rw[<-h3];exact hr,pz,e1⟩
end
def BW(env:Env)(t:Tx):Option Int:=env.foldl (fun o b=>if b.1=t then some b.2 else o) none
theorem Ob(env:Env)(b:Tx × Int)(t:Tx):BW (env++[b]) t=if b.1=t then some b.2 else BW env t:=by
 unfold BW;rw[List.foldl_append];rfl
theorem Oc{env:Env}{t:Tx}(h:∀b∈env,b.1≠t):BW env t=none:=by
 have key:∀(l:Env) (o:Option Int),(∀b∈l,b.1≠t)->l.foldl (fun o b=>if b.1=t then some b.2 else o) o=o:=by
  intro l
  induction l with
  |nil=>intro o _;rfl
  |cons b l ih=>
   intro o h;rw[List.foldl_cons,if_neg (h b (by simp))];exact ih _ (fun c hc=>h c (List.mem_cons_of_mem _ hc))
 exact key env none h
theorem RE{env:Env}(ha:DB env){b:Tx × Int}(h:b∈env):BW env b.1=some b.2:=by
 have key:∀(l:Env) (o:Option Int),DB l->b∈l->l.foldl (fun o c=>if c.1=b.1 then some c.2 else o) o=some b.2:=by
  intro l
  induction l with
  |nil=>intro o _ h;cases h
  |cons c l ih=>
   intro o ha h;unfold DB Asc at ha;rw[List.map_cons,List.pairwise_cons]at ha;rw[List.foldl_cons];rcases List.mem_cons.1 h with rfl|h
   ·rw[if_pos rfl];have yF:∀(l:Env) (o:Option Int),(∀c∈l,c.1≠b.1)->l.foldl (fun o c=>if c.1=b.1 then some c.2 else o) o=o:=by
     intro l
     induction l with
     |nil=>intro o _;rfl
     |cons d l ih=>
      intro o h;rw[List.foldl_cons,if_neg (h d (by simp))];exact ih _ (fun c hc=>h c (List.mem_cons_of_mem _ hc))
    refine yF l _ (fun d hd e=> ?_);have:=ha.1 d.1 (List.mem_map_of_mem hd);rw[e]at this;exact Bt _ this
   ·exact ih _ ha.2 h
 exact key env none ha h
theorem Od{env:Env}(ha:DB env)(hn:∀b∈env,0<=b.2)(t:Tx):BW env t=if 0<=Ao env t then some (Ao env t) else none:=by
 by_cases h:∃b∈env,b.1=t
 ·obtain⟨b,hb,rfl⟩:=h;rw[RE ha hb,M3 ha hb,if_pos (hn b hb)]
 ·have h2:∀b∈env,b.1≠t:=fun b hb e=>h ⟨b,hb,e⟩
  rw[Oc h2,Fm h2,if_neg (by decide)]
def JW(f:Tx->Option Int):Lit->Option Lit
 | .string t=>(f t).map (Lit.int .i64)
 |_=>none
def D7(w:World)(b m:Nat)(f:Tx->Option Int):Prop:=AS 9 3 w b m (JW f)
section
variable {w w':World} {b m:Nat} {f:Tx->Option Int}
theorem D7.made(w:World):D7 (w.alloc (.map #[] 0)) w.heap.size 0 (fun _=>none):=(AS.made _ _ w).congr (fun k=>by cases k<;>rfl)
theorem D7.put(h:D7 w b m f)(hm:m<maxLen)(t:Tx)(ht:t.length<=maxLen)(n:Int)(hn:(Lit.int .i64 n).wf=true):
  ∃w',(Instr.mapUpdate 149 (.map (some b)) (str t) (.int .i64 n)).run Tryz.prog w= .ok () w'/\D7 w' b (m+1) (fun x=>if x=t then some n else f x)/\w.grownBy w' (some b):=by
 obtain⟨w',hr,ho,hg⟩:=AS.put (string_keyed Tryz.underlying9) Tryz.underlying149 h hm (EZ t ht) (plainElem_int Tryz.underlying3 hn);refine⟨w',hr,AS.congr ho (fun k=> ?_),hg⟩;cases k with
 |string x=>
  by_cases hx:x=t
  ·subst hx;simp[JW]
  ·simp[JW,hx]
 |_=>simp[JW]
theorem D7.del(h:D7 w b m f)(t:Tx)(ht:t.length<=maxLen)(ty:TypeId):
  ∃w',(Builtin.delete_ #[149,9] ty #[.map (some b),str t]).run Tryz.prog w= .ok (.tuple #[]) w'/\D7 w' b m (fun x=>if x=t then none else f x)/\w.grownBy w' (some b):=by
 obtain⟨w',hr,ho,hg⟩:=AS.del (string_keyed Tryz.underlying9) Tryz.underlying149 h (EZ t ht) ty;refine⟨w',hr,AS.congr ho (fun k=> ?_),hg⟩;cases k with
 |string x=>
  by_cases hx:x=t
  ·subst hx;simp[JW]
  ·simp[JW,hx]
 |_=>simp[JW]
theorem D7.look(h:D7 w b m f)(t:Tx)(ht:t.length<=maxLen):
  (Instr.lookup 149 (.map (some b)) (str t) true).run Tryz.prog w= .ok (.tuple #[.int .i64 ((f t).getD 0),.bool (f t).isSome]) w/\(Instr.lookup 149 (.map (some b)) (str t) false).run Tryz.prog w= .ok (.int .i64 ((f t).getD 0)) w:=by
 obtain⟨c,h1,h2,h3⟩:=AS.look_int (string_keyed Tryz.underlying9) Tryz.underlying149 h (EZ t ht);have e1:(JW f (.string t)).isSome=(f t).isSome:=by simp[JW]
 have e2:c=(f t).getD 0:=by
  cases hf:f t with
  |none=>simpa [JW,hf] using h3.symm
  |some d=>simpa [JW,hf] using h3.symm
 rw[e1]at h1;rw[<-e2];exact⟨h1,h2⟩
end
def TT(w:World)(g o:Nat)(b:Tx × Int):Prop:=w.cell? ⟨g,o,none⟩=some (str b.1)/\w.cell? ⟨g,o+1,none⟩=some (.int .i64 b.2)
def RdE(w:World)(v:Value)(env:Env):Prop:=∃A c,v= .slice A env.length c/\(0<env.length->∃g o,A=some ⟨g,o,none⟩/\g<w.heap.size/\∀i (hi:i<env.length),TT w g (o+i*2) env[i])
theorem RdE.ext{w w':World}{v:Value}{env:Env}(h:RdE w v env)(hx:Ext w w'):RdE w' v env:=by
 obtain⟨A,c,rfl,h⟩:=h;refine⟨A,c,rfl,fun hp=> ?_⟩;obtain⟨g,o,rfl,hg,hc⟩:=h hp;exact⟨g,o,rfl,Nat.lt_of_lt_of_le hg hx.size,fun i hi=>⟨(hx.cell hg).trans (hc i hi).1,(hx.cell hg).trans (hc i hi).2⟩⟩
theorem Blk.twoB{w:World}{g:Nat}{t:TypeId}{a b:Value}(h:Blk w g t #[a,b]):w.cell? ⟨g,0,none⟩=some a/\w.cell? ⟨g,1,none⟩=some b:=⟨h.cell 0,h.cell 1⟩
def TxE(env:Env):Prop:=∀b∈env,b.1.length<=1000000/\(Lit.int .i64 b.2).wf=true
theorem EJ(w:World)(v:Value)(env:Env)(h:RdE w v env)(hn:env.length<=100000)(cd:TxE env):
  Calls Tryz.prog 97 #[v] w fun e w'=>∃b,e= .returned (.map (some b))/\w.heap.size<=b/\D7 w' b env.length (BW env)/\Ext w w':=by
 obtain⟨A,c,rfl,aB⟩:=h;have bH:=J aB;have eD:=J cd;obtain⟨n,bh⟩:∃n,n=env.length:=⟨_,rfl⟩;have HN:=J bh;rw[<-bh]at hn ⊢;have hmm:=fun W=> @run_makeMap Tryz.prog 149 W
 have oH:=J (D7.made w);have ek:=J ((Ext.refl w).alloc (.map #[] 0));clear aB cd bh;go_enter Tryz.func97,Tryz.ntmps97;go_upto_region 2 with fail;obtain⟨b,hb⟩:∃b,w.heap.size=b:=⟨_,rfl⟩;rw[hb]at oH ⊢;generalize w.alloc (.map #[] 0)=w1 at *;clear hmm;go_wp2_with fail;go_loopw [9] (fun s9 wr=>∃k:Nat,k<=n/\s9= .int .i64 (k:Int)/\D7 wr b k (BW (env.take k))/\Ext w wr) (fun s9 _=>n-(intOf s9).toNat)
 case atStart=>exact⟨0,Nat.zero_le _,rfl,by rw[List.take_zero];exact oH.o,ek.o⟩
 case round=>
  clear oH ek;obtain⟨k,hk,rfl,ea,hx⟩:=hrel;by_cases hlt:k<n
  ·have bB:k<env.length:=by rw[<-HN.o];exact hlt
   obtain⟨gb,o,rfl,bO,hc⟩:=bH.o (by omega);obtain⟨p0,p1⟩:=hc k bB;rw[<-hx.cell bO]at p0 p1;have al:gb<wr.heap.size:=Nat.lt_of_lt_of_le bO hx.size;have fy:(0:Int)<=(k:Int):=by omega
   have lD:(k:Int)<(n:Int):=by omega
   have iW:IntKind.i64.wrap ((k:Int)+1)=(k:Int)+1:=IntWalk.i64_in _ (by omega);have kq:=eD.o _ (List.getElem_mem bB);have cA:Hid (BW (env.take (k+1))=fun t=>if t=env[k].1 then some env[k].2 else BW (env.take k) t):=J (by
    funext t
    rw[List.take_succ_eq_append_getElem bB,Ob];by_cases e:env[k].1=t
    ·rw[if_pos e,if_pos e.symm]
    ·rw[if_neg e,if_neg (fun h=>e h.symm)])
   have tC:=J ea;have HX:=J hx;clear hc ea hx;generalize env[k]=y at *;obtain⟨t,z⟩:=y;simp only at p0 p1 cA kq;have az:=J (fun W (h:D7 W b k (BW (env.take k)))=>h.put (by unfold maxLen;omega) t (by unfold maxLen;omega) z kq.2);obtain⟨s,hs⟩:∃s:ByteArray,str t= .string s:=⟨_,rfl⟩;rw[hs]at p0 az;have jS:b<wr.heap.size:=by
    have:=tC.o;unfold D7 at this;exact this.lt
   have lJ:Hid (w.heap.size<=b):=J (by omega);clear hs kq bB;go_upto_region 5 with fail;have dx:=Blk.new wr 62 #[.string s,.int .i64 z];have bq:=(Ext.refl wr).alloc (.cells #[.string s,.int .i64 z] 62);generalize wr.alloc (.cells #[.string s,.int .i64 z] 62)=w7 at *;generalize wr.heap.size=nb at *;obtain⟨q0,q1⟩:=dx.twoB;obtain⟨w8,aV,pE,mS⟩:=az.o w7 (AS.ext tC.o bq);have ya:=J pE;have bV:=J ((HX.o.trans bq).grown mS (fun j e=>by injection e with e;subst e;exact lJ.o));clear pE mS dx bq p0 p1;go_wp2_with fail;go_roundw
   ·exact⟨k+1,hlt,by go_num,by rw[cA.o];exact ya.o,bV.o⟩
   ·simp only[intOf];omega
  ·obtain rfl:k=n:=by omega
   have HE:=J (And.intro (show D7 wr b k (BW env) by rw[show env.take k=env from List.take_of_length_le (by rw[<-HN.o];exact Nat.le_refl _)]at ea;exact ea) hx);have ua:Hid (w.heap.size<=b):=J (by omega);have hkk:decide ((k:Int)<(k:Int))=false:=decide_eq_false (by omega);clear ea hx;go_wp2_with fail;go_ret;exact⟨b,rfl,by omega,HE.o.1,HE.o.2⟩
end Big
end Go.Proofs.YtkoaogkknnelaaaGreatDoor
