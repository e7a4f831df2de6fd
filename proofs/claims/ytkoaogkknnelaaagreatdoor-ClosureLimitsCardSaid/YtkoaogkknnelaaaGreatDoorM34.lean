import Derived.Test.YtkoaogkknnelaaaGreatDoorM33
import Derived.Test.YtkoaogkknnelaaaGreatDoorShelf6
set_option linter.unusedVariables false
set_option linter.unusedSimpArgs false
set_option maxHeartbeats 8000000
set_option maxRecDepth 100000
namespace Go.Proofs.YtkoaogkknnelaaaGreatDoor
namespace Big
open Lib renaming hid → J
def Ni(ns:List Nd)(f:Tx->Option Int)(t s:Tx):Prop:=∃n:Nat,f t=some (n:Int)/\AB ns n s
inductive C0 (ns:List Nd) (f:Tx->Option Int) (T:Tx->Prop):Tx->Prop where
 |here {t:Tx}:T t->C0 ns f T t
 |step {t s:Tx}:C0 ns f T t->Ni ns f t s->C0 ns f T s
def Tz(env:Env)(f:Tx->Option Int):Prop:=∀t,f t=if 0<=Ao env t then some (Ao env t) else none
theorem Jm{ns:List Nd}{env:Env}{f:Tx->Option Int}(hf:Tz env f){T:Tx->Prop}(t:Tx):C0 ns f T t↔AA ns env T t:=by
 constructor
 ·intro h
  induction h with
  |here h=>exact .here h
  |step _ h ih=>
   obtain⟨n,h1,h2⟩:=h;rw[hf]at h1;split at h1
   ·injection h1 with h1
    exact .step ih (by omega) (by rw[h1];exact h2)
   ·cases h1
 ·intro h
  induction h with
  |here h=>exact .here h
  |step _ h1 h2 ih=>exact .step ih ⟨_,by rw[hf,if_pos h1];congr 1;omega,h2⟩
structure E7 (ns:List Nd) (f:Tx->Option Int) (T S:Tx->Prop) (L:List Tx):Prop where
 seen:∀t,S t->C0 ns f T t
 wait:∀t∈L,C0 ns f T t
 base:∀t,T t->S t\/t∈L
 clos:∀t s,S t->Ni ns f t s->S s\/s∈L
section
variable {ns:List Nd} {f:Tx->Option Int} {T S:Tx->Prop} {L:List Tx}
theorem E7.start{l:List Tx}(h:∀t,T t↔t∈l):E7 ns f T (fun _=>False) l:=
 ⟨fun _ h=>h.elim,fun t ht=> .here ((h t).2 ht),fun t ht=> .inr ((h t).1 ht),fun _ _ h=>h.elim⟩
theorem E7.old{x:Tx}(h:E7 ns f T S (L++[x]))(hx:S x):E7 ns f T S L:=by
 have key:∀s,S s\/s∈L++[x]->S s\/s∈L:=by
  intro s hs;rcases hs with hs|hs
  ·exact .inl hs
  ·rcases List.mem_append.1 hs with hs|hs
   ·exact .inr hs
   ·rw[List.mem_singleton]at hs;subst hs;exact .inl hx
 exact⟨h.seen,fun t ht=>h.wait t (List.mem_append_left _ ht),fun t ht=>key t (h.base t ht),fun t s ht hs=>key s (h.clos t s ht hs)⟩
theorem E7.new{x:Tx}{l:List Tx}(h:E7 ns f T S (L++[x]))(hl:∀s,Ni ns f x s↔s∈l):E7 ns f T (fun t=>t=x\/S t) (L++l):=by
 have hx:C0 ns f T x:=h.wait x (by simp);have key:∀s,S s\/s∈L++[x]->(s=x\/S s)\/s∈L++l:=by
  intro s hs;rcases hs with hs|hs
  ·exact .inl (.inr hs)
  ·rcases List.mem_append.1 hs with hs|hs
   ·exact .inr (List.mem_append_left _ hs)
   ·rw[List.mem_singleton]at hs;exact .inl (.inl hs)
 refine⟨?_,?_,fun t ht=>key t (h.base t ht),?_⟩
 ·rintro t (rfl|ht)
  ·exact hx
  ·exact h.seen t ht
 ·intro t ht;rcases List.mem_append.1 ht with ht|ht
  ·exact h.wait t (List.mem_append_left _ ht)
  ·exact .step hx ((hl t).2 ht)
 ·rintro t s (rfl|ht) hs
  ·exact .inr (List.mem_append_right _ ((hl s).1 hs))
  ·exact key s (h.clos t s ht hs)
theorem E7.done(h:E7 ns f T S [])(t:Tx):S t↔C0 ns f T t:=by
 constructor
 ·exact h.seen t
 ·intro ht
  induction ht with
  |here ht=>exact(h.base _ ht).resolve_right (by simp)
  |step _ hs ih=>exact(h.clos _ _ ih hs).resolve_right (by simp)
end
noncomputable def unS(S:Tx->Prop)(t:Tx):Bool:= @decide (¬S t) (Classical.propDecidable _)
theorem GS{S:Tx->Prop}{t:Tx}(h:¬S t):unS S t=true:= @decide_eq_true _ (Classical.propDecidable _) h
theorem F5{S:Tx->Prop}{t:Tx}(h:S t):¬unS S t=true:=fun h2=> @of_decide_eq_true _ (Classical.propDecidable _) h2 h
noncomputable def Ew(U:List Tx)(S:Tx->Prop):Nat:=(U.filter (unS S)).length
theorem RG(U:List Tx)(S:Tx->Prop):Ew U S<=U.length:=List.length_filter_le _ _
theorem JJ(x:Tx)(S:Tx->Prop):∀U:List Tx,Ew U (fun t=>t=x\/S t)<=Ew U S
 |[]=>Nat.le_refl _
 |v::V=>by
  have ih:=JJ x S V;unfold Ew at *;by_cases h1:S v
  ·rw[List.filter_cons_of_neg (F5 (Or.inr h1)),List.filter_cons_of_neg (F5 h1)];exact ih
  ·rw[List.filter_cons_of_pos (GS h1),List.length_cons];by_cases h2:v=x
   ·rw[List.filter_cons_of_neg (F5 (Or.inl h2))];omega
   ·rw[List.filter_cons_of_pos (GS (fun h=>h.elim h2 h1)),List.length_cons];omega
theorem MQ{S:Tx->Prop}{x:Tx}(hs:¬S x):∀{U:List Tx},x∈U->Ew U (fun t=>t=x\/S t)<Ew U S
 |[],hx=>by cases hx
 |u::U,hx=>by
  have hm:=JJ x S U;by_cases hu:u=x
  ·subst hu;unfold Ew at *;rw[List.filter_cons_of_neg (F5 (Or.inl rfl)),List.filter_cons_of_pos (GS hs),List.length_cons];omega
  ·have hx':x∈U:=by
    rcases List.mem_cons.1 hx with h|h
    ·exact absurd h.symm hu
    ·exact h
   have ih:=MQ hs hx';unfold Ew at *;by_cases h1:S u
   ·rw[List.filter_cons_of_neg (F5 (Or.inr h1)),List.filter_cons_of_neg (F5 h1)];exact ih
   ·rw[List.filter_cons_of_pos (GS (fun h=>h.elim hu h1)),List.filter_cons_of_pos (GS h1),List.length_cons,List.length_cons];omega
open Go.RowKit Go.Maps Go.Sort
theorem BK.nil(B:Nat)(w:World):BK B w (.slice none 0 0) []:=⟨rfl,.inl ⟨rfl,rfl⟩⟩
theorem BK.ext{B:Nat}{w w':World}{v:Value}{ls:List Tx}(h:BK B w v ls)(hx:Ext w w'):BK B w' v ls:=Ad h (fun k _ hk=>hx.block k hk)
theorem BK.shape{B:Nat}{w:World}{v:Value}{ls:List Tx}(h:BK B w v ls):∃A c,v= .slice A ls.length c:=Am h
theorem BK.cells{B:Nat}{w:World}{v:Value}{ls:List Tx}(h:BK B w v ls):(ls=[]/\v= .slice none 0 0)\/∃g c,v= .slice (some ⟨g,0,none⟩) ls.length c/\B<=g/\∀(j:Nat) u,(ls.map str)[j]? =some u->w.cell? ⟨g,j,none⟩=some u:=by
 have h':=h;unfold BK at h;rcases h.2 with ⟨h1,h2⟩|⟨g,cap,cur,hv,hg,_⟩
 ·exact .inl ⟨List.eq_nil_of_length_eq_zero h2,h1⟩
 ·subst hv;refine .inr ⟨g,cap,rfl,hg,fun j u hj=> ?_⟩;have hl:j<ls.length:=by
   rcases Nat.lt_or_ge j ls.length with h|h
   ·exact h
   ·rw[List.getElem?_eq_none (by rw[List.length_map];exact h)]at hj;cases hj
  rw[h.cellAt j (by omega),hj]
theorem Nx(B:Nat)(w:World)(v:Value)(ls:List Tx)(h:BK B w v ls)(hl:ls.length<=1000000):
  Calls Tryz.prog 154 #[v] w fun e w'=>∃v',e= .returned v'/\BK w.heap.size w' v' ls/\Ext w w':=by
 rcases h.cells with ⟨rfl,rfl⟩|⟨g,c,rfl,_,hc⟩
 ·refine(AnyE.slices_Clone_nil Tryz.cloneTxIt 0 0 w).mono ?_
  rintro e w' ⟨rfl,rfl⟩;exact⟨_,rfl,BK.nil _ _,Ext.refl _⟩
 ·obtain⟨i0,hi,aU,hz1,a9⟩:=info_parts E0;have h:=AnyE.slices_Clone Tryz.cloneTxIt i0 (.string ⟨#[]⟩) 1 16 hi aU hz1 a9 rfl (by decide) (fun w=>by kernel_rfl) g 0 ls.length c (ls.map str) w (by rw[List.length_map,Nat.mul_one]) (by unfold maxLen;omega) (by omega) (fun j u hj=>by rw[Nat.zero_add];exact hc j u hj) (fun u hu=>by
   obtain⟨x,_,rfl⟩:=List.mem_map.1 hu;rfl)
  refine h.mono ?_
  rintro e w' ⟨v',rfl,ho,_,hx⟩;exact⟨v',rfl,ho,hx⟩
theorem AB.lt{ns:List Nd}{i:Nat}{t:Tx}(h:AB ns i t):i<ns.length:=by
 obtain⟨j,x,hr,hx,_⟩:=h;have key:∀j,Bj ns i j->i=j\/i<ns.length:=by
  intro j hr
  induction hr with
  |here=>exact .inl rfl
  |down h ha ih=>
   rcases ih with rfl|ih
   ·right
    unfold B7 at ha;split at ha
    ·rename_i hx;exact(List.getElem?_eq_some_iff.1 hx).1
    ·cases ha
   ·exact .inr ih
 rcases key j hr with rfl|h
 ·exact(List.getElem?_eq_some_iff.1 hx).1
 ·exact h
theorem L7{ns:List Nd}{f:Tx->Option Int}{x:Tx}{z:Int}{l:List Tx}(hf:f x=some z)(hl:AQ ns z l)(s:Tx):Ni ns f x s↔s∈l:=by
 unfold AQ at hl;split at hl
 ·rename_i hz;rw[hl.2 s];constructor
  ·rintro⟨n,h1,h2⟩;rw[hf]at h1;injection h1 with h1
   subst h1;exact h2
  ·intro h;exact⟨z.toNat,by rw[hf];congr 1;omega,h⟩
 ·rename_i hz;subst hl;constructor
  ·rintro⟨n,h1,h2⟩;rw[hf]at h1;injection h1 with h1
   have:=h2.lt;omega
  ·intro h;cases h
theorem Nt{ns:List Nd}{f:Tx->Option Int}{x:Tx}(hf:f x=none)(s:Tx):Ni ns f x s↔s∈([]:List Tx):=by
 constructor
 ·rintro⟨n,h1,_⟩;rw[hf]at h1;cases h1
 ·intro h;cases h
theorem AQ.texts{ns:List Nd}{z:Int}{l:List Tx}(hs:Aw ns)(hl:AQ ns z l):l.length<=ns.length/\∀t∈l,t∈CA ns:=by
 unfold AQ at hl;split at hl
 ·exact⟨hl.len,fun t ht=>((hl.2 t).1 ht).mem⟩
 ·subst hl;exact⟨Nat.zero_le _,fun t ht=>by cases ht⟩
theorem BM{ns:List Nd}(hs:Aw ns):∀t∈CA ns,t.length<=400:=by
 intro t ht;obtain⟨x,hx,rfl⟩:=List.mem_map.1 ht;obtain⟨i,hi,rfl⟩:=List.mem_iff_getElem.1 hx;exact(hs.2 i _ (List.getElem?_eq_getElem hi)).text
theorem Dl(B g b:Nat)(w:World)(ns:List Nd)(nv:Value)(h:GrP B g b w ns nv)(i:Int):
  Calls Tryz.prog 42 #[.pointer (some ⟨g,0,none⟩),.int .i64 i] w (CF ns i w):=by
 by_cases hi:0<=i/\i<(ns.length:Int)
 ·obtain⟨k,rfl⟩:∃k:Nat,(k:Int)=i:=⟨i.toNat,by omega⟩;exact Oi B g b w ns nv h k (by omega)
 have HO:=J (AQ.o (ns:=ns) (i:=i) (by omega));have k0:=h.blk.twoG;obtain⟨A,c,rfl⟩:=h.row.shape;clear h;by_cases h0:i<0
 ·have hd:decide (i<0)=true:=decide_eq_true h0;clear hi;go_enter Tryz.func42,Tryz.ntmps42;go_wp2_with fail;go_ret;exact⟨_,[],rfl,BS.none_ w,HO.o,by decide,Ext.refl w,BK.nil _ _⟩
 ·have hd:decide (i<0)=false:=decide_eq_false h0;have h1:(ns.length:Int)<=i:=by omega
  have ba:decide (i>=(ns.length:Int))=true:=decide_eq_true h1;have kT:decide ((ns.length:Int)<=i)=true:=decide_eq_true h1;clear hi;go_enter Tryz.func42,Tryz.ntmps42;go_wp2_with fail;go_ret;exact⟨_,[],rfl,BS.none_ w,HO.o,by decide,Ext.refl w,BK.nil _ _⟩
theorem Et{P:Program}{e:TypeId}(he:P.underlying e=some .bool){v:Value}{z:DataW Unit × List MemPlace}(h:plainElem P e v=some z):∃x,v= .bool x/\z=(.lit (.bool x),[]):=by
 unfold plainElem at h;rw[he]at h;cases v<;>simp at h;exact⟨_,rfl,h.symm⟩
open Classical in
noncomputable def GW(S:Tx->Prop):Lit->Option Lit
 | .string t=>if S t then some (.bool true) else none
 |_=>none
def EE(w:World)(b m:Nat)(S:Tx->Prop):Prop:=AS 9 4 w b m (GW S)
section
variable {w w':World} {b m:Nat} {S:Tx->Prop}
theorem EE.made(w:World):EE (w.alloc (.map #[] 0)) w.heap.size 0 (fun _=>False):=(AS.made _ _ w).congr (fun k=>by cases k<;>simp[GW])
theorem EE.congr{S':Tx->Prop}(h:EE w b m S)(hs:∀t,S t↔S' t):EE w b m S':=by
 have:S=S':=funext fun t=>propext (hs t)
 subst this;exact h
theorem EE.put(h:EE w b m S)(hm:m<maxLen)(t:Tx)(ht:t.length<=maxLen):
  ∃w',(Instr.mapUpdate 151 (.map (some b)) (str t) (.bool true)).run Tryz.prog w= .ok () w'/\EE w' b (m+1) (fun x=>x=t\/S x)/\w.grownBy w' (some b):=by
 obtain⟨w',hr,ho,hg⟩:=AS.put (string_keyed Tryz.underlying9) Tryz.underlying151 h hm (EZ t ht) (plainElem_bool Tryz.underlying4 true);refine⟨w',hr,AS.congr ho (fun k=> ?_),hg⟩;cases k with
 |string x=>
  by_cases hx:x=t
  ·subst hx;simp[GW]
  ·by_cases hs:S x<;>simp[GW,hx,hs]
 |_=>simp[GW]
open Classical in
theorem EE.look(h:EE w b m S)(t:Tx)(ht:t.length<=maxLen):(Instr.lookup 151 (.map (some b)) (str t) false).run Tryz.prog w= .ok (.bool (decide (S t))) w:=by
 obtain⟨D,h,h2,h3⟩:=h;have hz:(zeroValue 4).run Tryz.prog w= .ok (.bool false) w:=by kernel_rfl
 have no:plainElem (H:=Unit) Tryz.prog 4 (.bool false)=some (.lit (.bool false),[]):=plainElem_bool Tryz.underlying4 false;obtain⟨v,ps,hr,hv⟩:=h.lookup (string_keyed Tryz.underlying9) Tryz.underlying151 hz no (EZ t ht);obtain⟨x,rfl,hc⟩:=Et Tryz.underlying4 hv;simp only[Prod.mk.injEq]at hc;have h4:=h2 (.string t) (.lit (.bool false));rw[hc.1]at h4;rw[hr];by_cases hs:S t
 ·have:x=true:=by simpa [GW,hs] using h4
  rw[this,decide_eq_true hs]
 ·have:x=false:=by simpa [GW,hs] using h4
  rw[this,decide_eq_false hs]
theorem EE.set(h:EE w b m S):Dx w b m S:=by
 obtain⟨D,h,h2,h3⟩:=h;refine⟨D,h,fun t=> ?_⟩;rw[h3];by_cases hs:S t<;>simp[GW,hs]
end
theorem BK.take{B:Nat}{w:World}{A:Option Addr}{c:Nat}{L:List Tx}{x:Tx}(h:BK B w (.slice A (L.length+1) c) (L++[x])):BK B w (.slice A L.length c) L:=by
 have h':w.ownsRow B 9 1 (.slice A (L.length+1) c) (L.length+1) ((L++[x]).map str):=by
  unfold BK at h
  rwa [List.length_append,List.length_singleton]at h
 have h2:=Ds h' (Nat.le_succ L.length);rw[Nat.mul_one,List.map_append,List.take_append_of_le_length (by rw[List.length_map];exact Nat.le_refl _),List.take_of_length_le (by rw[List.length_map];exact Nat.le_refl _)]at h2;exact h2
theorem BK.at{B:Nat}{w w':World}{v:Value}{L:List Tx}(h:BK B w v L){b:Nat}(hb:b<B)(hg:w.grownBy w' (some b)):BK B w' v L:=by
 refine AU h (fun k hk=>hg.block k (Ax h hk) (fun e=> ?_));injection e with e
 have:=(AY h k hk).1;omega
theorem AS.past{K E:TypeId}{w w':World}{b m:Nat}{f:Lit->Option Lit}(h:AS K E w b m f){B:Nat}{v:Value}{L:List Tx}(ho:BK B w v L)(hb:b<B)(hg:w.grownBy w' v.ownBlock):AS K E w' b m f:=
 h.at (hg.block b h.lt (fun e=>by have:=(AY ho b e.symm).1;omega))
theorem QN(g j:Nat):(⟨g,0,none⟩:Addr).add j=⟨g,j,none⟩:=by
 unfold Addr.add;split
 ·rename_i h;subst h;rfl
 ·simp
open Classical in
theorem EE.look2{w:World}{b m:Nat}{S:Tx->Prop}(h:EE w b m S)(t:Tx)(ht:t.length<=maxLen):∃d:Bool,(d=true↔S t)/\(Instr.lookup 151 (.map (some b)) (str t) false).run Tryz.prog w= .ok (.bool d) w:=⟨_,decide_eq_true_iff,h.look t ht⟩
def F1(ns:List Nd)(f:Tx->Option Int)(T:Tx->Prop)(w:World)(e:Ending)(w':World):Prop:=∃sb c,e= .returned (.map (some sb))/\w.heap.size<=sb/\EE w' sb c (C0 ns f T)/\c<=10000/\Ext w w'
theorem GD(B g b:Nat)(w:World)(ns:List Nd)(nv:Value)(h:GrP B g b w ns nv)(bm cb:Nat)(f:Tx->Option Int)(hb:D7 w bm cb f)(B':Nat)(v:Value)(ls:List Tx)(hv:BK B' w v ls)(fG:ls.length<=5000)(hlt:∀t∈ls,t.length<=1000000)(T:Tx->Prop)(hT:∀t,T t↔t∈ls):
  Calls Tryz.prog 98 #[.pointer (some ⟨g,0,none⟩),.map (some bm),v] w (F1 ns f T w):=by
 have HG:=J h;have HB:=J hb;have hfew:=h.few;obtain⟨U,hU⟩:∃U,U=ls++CA ns:=⟨_,rfl⟩;have Y7:U.length<=9096:=by
  rw[hU,List.length_append];unfold CA;rw[List.length_map];omega
 have wJ:Hid (∀t∈U,t.length<=1000000):=J (fun t ht=>by
  rw[hU]at ht;rcases List.mem_append.1 ht with ht|ht
  ·exact hlt t ht
  ·have:=BM HG.o.ok t ht;omega)
 have ZR:Hid (∀t∈CA ns,t∈U):=J (fun t ht=>by rw[hU];exact List.mem_append_right _ ht);have sG:Hid (∀t∈ls,t∈U):=J (fun t ht=>by rw[hU];exact List.mem_append_left _ ht);have aF:=J (E7.start (ns:=ns) (f:=f) hT);have Z9:=J (RG U (fun _=>False));have bH:=J (fun W hx=>Nx B' W v ls (hv.ext (w':=W) hx) (by omega));have hmm:=fun W=> @run_makeMap Tryz.prog 151 W
 have oH:=J (EE.made w);have ek:=J ((Ext.refl w).alloc (.map #[] 0));have ja:(w.alloc (.map #[] 0)).heap.size=w.heap.size+1:=by simp
 obtain⟨A0,c0,rfl⟩:=hv.shape;obtain⟨n0,hn0⟩:∃n0,n0=ls.length:=⟨_,rfl⟩;rw[<-hn0]at fG bH ⊢;have i4:=J hn0;unfold F1;clear h hb hv hlt hT hU hn0;go_enter Tryz.func98,Tryz.ntmps98;go_upto_region 2 with fail;obtain⟨sb,hsb⟩:∃sb,w.heap.size=sb:=⟨_,rfl⟩;rw[hsb]at oH ⊢;have hW:Hid (w.heap.size<=sb):=J (by omega);generalize w.alloc (.map #[] 0)=w1 at *;have gE:Hid (sb<w1.heap.size):=J (by omega);clear hmm ja hsb;go_wp2_with fail;refine(bH.o w1 ek.o).mono ?_
 rintro e w2 ⟨v2,rfl,bN,au⟩;have el:=J bN;have aq:=J (ek.o.trans au);have cS:=J (AS.ext oH.o au);clear bN au bH oH ek;go_wp2_with fail
 go_loopg [8,9,10,11] (Ew U (fun _=>False)*10000+n0) (fun gh s8 _ _ _ wr=>∃(S:Tx->Prop) (L:List Tx) (c:Nat),gh=Ew U S*10000+L.length/\BK w1.heap.size wr s8 L/\EE wr sb c S/\E7 ns f T S L/\(∀t∈L,t∈U)/\c+Ew U S<=U.length/\L.length<=5000+c*4096/\Ext w wr)
 case atStart=>exact⟨_,ls,0,by rw[i4.o],el.o,cS.o,aF.o,sG.o,by have:=Z9.o;omega,by have:=i4.o;omega,aq.o⟩
 case round=>
  clear el cS aF aq;obtain⟨S,L,c,iD,ho,hm,hs,Ur,hc,WE,hx⟩:=hrel;have fl:=J iD;have HX:=J hx;have HO:=J ho;have HM:=J hm;have HS:=J hs;clear iD hx ho hm hs;have Zh:L=[]\/∃L' x,L=L'++[x]:=by
   rcases List.eq_nil_or_concat L with h|⟨a,b,h⟩
   ·exact .inl h
   ·exact .inr ⟨a,b,by rw[h,List.concat_eq_append]⟩
  rcases Zh with rfl|⟨L',x,rfl⟩
  ·obtain⟨A,c2,rfl⟩:=HO.o.shape;have HF:=J (EE.congr HM.o HS.o.done);clear HO HM HS;go_wp2_with fail;go_ret;exact⟨sb,c,rfl,hW.o,HF.o,by omega,HX.o⟩
  ·have lR:Hid ((L'++[x]).length=L'.length+1):=J (by rw[List.length_append,List.length_singleton]);obtain⟨gb,c2,nB,cw,aB⟩:∃gb c2,u8= .slice (some ⟨gb,0,none⟩) (L'.length+1) c2/\w1.heap.size<=gb/\wr.cell? ⟨gb,L'.length,none⟩=some (str x):=by
    rcases HO.o.cells with ⟨h,_⟩|⟨gb,c2,h1,h2,h3⟩
    ·simp at h
    ·exact⟨gb,c2,by rw[<-lR.o];exact h1,h2,h3 L'.length _ (by rw[List.getElem?_map,List.getElem?_append_right (Nat.le_refl _),Nat.sub_self];rfl)⟩
   subst nB;have dK:L'.length+1<=c2:=by
    rcases HO.o.2 with ⟨h,_⟩|⟨g',cap,cur,h,_,_,h2,_⟩
    ·cases h
    ·rw[lR.o]at h h2;injection h with _ _ h
     omega
   have cA:=J (BK.take HO.o);rw[lR.o]at fl WE;have yL:x∈U:=Ur x (by simp);have ZI:=J yL;have XM:=wJ.o x yL;have lP:Hid (∀t∈L',t∈U):=J (fun t ht=>Ur t (List.mem_append_left _ ht));have gS:=J (fun h=>HS.o.old h);have iF:=J (fun l h=>E7.new (l:=l) HS.o h);clear Ur lR HO HS yL;obtain⟨sx,tJ,kv⟩:=HM.o.look2 x (by unfold maxLen;omega);have xZ:=J tJ;clear tJ;have az:=J (HM.o.put (by unfold maxLen;omega) x (by unfold maxLen;omega));have ki:=J (fun W (h:D7 W bm cb f)=>h.look x (by unfold maxLen;omega));obtain⟨s,hs⟩:∃s:ByteArray,str x= .string s:=⟨_,rfl⟩;rw[hs]at aB kv az ki;obtain⟨m,hm⟩:∃m,m=L'.length:=⟨_,rfl⟩;rw[<-hm]at aB dK cA fl WE ⊢;have dl:=J hm;have aL:IntKind.i64.wrap (((m+1:Nat):Int)-1)=(m:Int):=by rw[IntWalk.i64_in _ (by omega)];omega
   have aY:IntKind.i64.wrap (((m:Int)+1)-1)=(m:Int):=by rw[IntWalk.i64_in _ (by omega)];omega
   have rS:(0:Int)<=(m:Int):=by omega
   have kO:(m:Int)<((m+1:Nat):Int):=by omega
   have lB:(m:Int)<=(c2:Int):=by omega
   have vg:(m:Int)<=((m+1:Nat):Int):=by omega
   have l9:(0:Int)<((m+1:Nat):Int):=by omega
   have jh:decide (((m+1:Nat):Int)>0)=true:=decide_eq_true l9;clear hs hm;rcases sx with _|_
   rotate_left
   ·have U3:=J (gS.o (xZ.o.1 rfl));clear xZ gS iF az ki;go_wp2_with fail
    go_roundg (Ew U S*10000+m)
    case rel=>exact⟨S,L',c,by rw[dl.o],by rw[dl.o];rw[dl.o]at cA;exact cA.o,HM.o,U3.o,lP.o,hc,by have:=dl.o;omega,HX.o⟩
    case measure=>rw[fl.o];omega
   ·have aW:=J (MQ (S:=S) (fun h=>by have:=xZ.o.2 h;cases this) ZI.o);clear xZ gS;obtain⟨w8,aV,pE,mS⟩:=az.o;have ya:=J pE;have sH:=J (cA.o.at gE.o mS);have bV:=J (HX.o.grown mS (fun k e=>by injection e with e;subst e;exact hW.o));obtain⟨hl1,_⟩:=ki.o w8 (AS.ext HB.o bV.o);clear pE mS az cA;rcases hfx:f x with _|z
    ·rw[hfx]at hl1;have fw:=J (iF.o [] (Nt hfx));rw[List.append_nil]at fw;clear iF hfx;go_wp2_with fail
     go_roundg (Ew U (fun t=>t=x\/S t)*10000+m)
     case rel=>exact⟨_,L',c+1,by rw[dl.o],by rw[dl.o];rw[dl.o]at sH;exact sH.o,ya.o,fw.o,lP.o,by have:=aW.o;omega,by have:=dl.o;omega,bV.o⟩
     case measure=>rw[fl.o];have:=aW.o;omega
    ·rw[hfx]at hl1;have bG:=J (Dl B g b w8 ns nv (HG.o.keep bV.o) z);unfold CF at bG;have aF:=J (fun l (hl:AQ ns z l)=>iF.o l (L7 hfx hl));clear iF hfx;go_wp2_with fail;refine bG.o.mono ?_
     rintro e w9 ⟨v9,l,rfl,_,eu,zr,iV,lw⟩;obtain⟨hl2,fS⟩:=AQ.texts HG.o.ok eu;have cj:Hid (l.length<=4096):=J (by omega);have fw:=J (aF.o l eu);have xe:=J (AS.ext ya.o iV);have p8:=J (sH.o.ext iV);have dz:=J (bV.o.trans iV);have xf:Hid (∀t∈L'++l,t∈U):=J (fun t ht=>by
      rcases List.mem_append.1 ht with ht|ht
      ·exact lP.o t ht
      ·exact ZR.o t (fS t ht))
     have i6:=J lw.cells;have fK:Hid (w1.heap.size<=w9.heap.size):=J (by have:=(AY p8.o gb rfl).2;omega);have cZ:Hid (w9.ownsRow w1.heap.size 9 1 (.slice (some ⟨gb,0,none⟩) m c2) m (L'.map str)):=J (by
      have:=p8.o;unfold BK at this
      rwa [<-dl.o]at this)
     obtain⟨i0,hi,aU,hz1,a9⟩:=info_parts E0;have xp:=J (And.intro hi (And.intro aU (And.intro hz1 a9)));obtain⟨ln,vi⟩:∃ln,ln=l.length:=⟨_,rfl⟩;have eW:=J vi;clear eu zr hl2 fS iV lw aF bG lP hi aU hz1 a9 vi hl1 aV kv aB;rcases i6.o with ⟨rfl,rfl⟩|⟨g9,c9,rfl,_,oh⟩
     ·go_wp2_with (at_builtin;go_must (refine wpList_append_own_none rfl _ _ 30 rfl w1.heap.size 9 i0 1 Tryz.underlying30 xp.o.1 _ m _ rfl cZ.o rfl ?_))
      go_roundg (Ew U (fun t=>t=x\/S t)*10000+m)
      case rel=>exact⟨_,L'++[],c+1,by rw[List.append_nil,dl.o],by rw[List.append_nil,dl.o];have:=p8.o;rw[dl.o]at this;exact this,xe.o,fw.o,xf.o,by have:=aW.o;omega,by rw[List.append_nil];have:=dl.o;omega,dz.o⟩
      case measure=>rw[fl.o];have:=aW.o;omega
     ·have lZ:=J oh;clear oh;rw[<-eW.o];go_wp2_with (at_builtin;go_must (refine wpList_append_own _ rfl _ _ 30 rfl w1.heap.size 9 i0 _ 1 16 Tryz.underlying30 xp.o.1 xp.o.2.1 xp.o.2.2.1 xp.o.2.2.2 rfl (by decide) _ m _ rfl cZ.o ⟨g9,0,none⟩ ln c9 (l.map str) rfl (by rw[List.length_map,Nat.mul_one,eW.o]) (fun j u hj=>by rw[QN];exact lZ.o j u hj) (fun u hu=>by obtain⟨y,_,rfl⟩:=List.mem_map.1 hu;rfl) (by unfold maxLen;have:=eW.o;have:=cj.o;omega) (by have:=eW.o;have:=cj.o;omega) fK.o ?_;intro v' w' ag al _;have gF:=J ag;have k9:=J (xe.o.past p8.o gE.o al);have lJ:=J (dz.o.grown al (fun k e=>by injection e with e;subst e;exact Nat.le_trans (Nat.le_trans hW.o (Nat.le_of_lt gE.o)) (AY cZ.o gb rfl).1));clear ag al))
      go_roundg (Ew U (fun t=>t=x\/S t)*10000+(m+ln))
      case rel=>exact⟨_,L'++l,c+1,by rw[List.length_append,dl.o,eW.o],by unfold BK;rw[List.length_append,List.map_append,<-dl.o,<-eW.o];exact gF.o,k9.o,fw.o,xf.o,by have:=aW.o;omega,by rw[List.length_append];have:=dl.o;have:=cj.o;omega,lJ.o⟩
      case measure=>rw[fl.o];have:=aW.o;have:=eW.o;have:=cj.o;omega
def AX(ns:List Nd)(z:Int)(t:Tx):Prop:=0<=z/\z<(ns.length:Int)/\AB ns z.toNat t
theorem AX.mem{ns:List Nd}{z:Int}{l:List Tx}(hl:AQ ns z l)(t:Tx):AX ns z t↔t∈l:=by
 unfold AQ at hl;split at hl
 ·rename_i hz;rw[hl.2 t];exact⟨fun h=>h.2.2,fun h=>⟨hz.1,hz.2,h⟩⟩
 ·rename_i hz;subst hl;exact⟨fun h=>absurd ⟨h.1,h.2.1⟩ hz,fun h=>by cases h⟩
theorem GR{w:World}{v:Value}{env:Env}(h:RdE w v env):∃A c,v= .slice A env.length c:=by
 obtain⟨A,c,hv,_⟩:=h;exact⟨A,c,hv⟩
theorem JY(B g b:Nat)(w:World)(ns:List Nd)(nv:Value)(h:GrP B g b w ns nv)(v:Value)(env:Env)(he:RdE w v env)(hn:env.length<=100000)(cd:TxE env)(t:Tx)(ht:t.length<=1000000)(id:Int):
  Calls Tryz.prog 48 #[.pointer (some ⟨g,0,none⟩),v,str t,.int .i64 id] w fun e w'=>∃d:Bool,e= .returned (.bool d)/\(d=true↔C0 ns (fun x=>if x=t then none else BW env x) (AX ns id) t)/\Ext w w':=by
 have HG:=J h;have aQ:=J (EJ w v env he hn cd);obtain⟨A,c,rfl⟩:=GR he;have yj:=J (fun W bm cb (hb:D7 W bm cb (BW env))=>hb.del t (by unfold maxLen;omega));have gI:=J (fun W sb cs S (hs:EE W sb cs S)=>hs.look2 t (by unfold maxLen;omega));obtain⟨s,hs⟩:∃s:ByteArray,str t= .string s:=⟨_,rfl⟩;rw[hs]at yj gI ⊢;clear h he hs;go_enter Tryz.func48,Tryz.ntmps48;go_wp2_with fail;refine aQ.o.mono ?_
 rintro e w1 ⟨bm,rfl,ea,aX,am⟩;have ah:=J am;have ah:=J am;obtain⟨w2,hr2,hb2,jO⟩:=yj.o w1 bm _ aX 0;have aP:=J hb2;have aq:=J (am.grown jO (fun k e=>by injection e with e;subst e;exact ea));clear aX hb2 jO am ea aQ yj;have bG:=J (Dl B g b w2 ns nv (HG.o.keep aq.o) id);unfold CF at bG;go_wp2_with fail;refine bG.o.mono ?_
 rintro e w3 ⟨v3,l,rfl,_,eu,_,ae,lw⟩;have aj:=J (aq.o.trans ae);obtain⟨hl2,fS⟩:=AQ.texts HG.o.ok eu;have hfew:=HG.o.few;have mu:=J (GD B g b w3 ns nv (HG.o.keep aj.o) bm _ _ (AS.ext aP.o ae) _ v3 l lw (by omega) (fun t ht=>by have:=BM HG.o.ok t (fS t ht);omega) (AX ns id) (AX.mem eu));unfold F1 at mu;obtain⟨A3,c3,rfl⟩:=lw.shape;clear eu ae lw hl2 fS hfew bG hr2;go_wp2_with fail;refine mu.o.mono ?_
 rintro e w4 ⟨sb,c4,rfl,_,mh,_,aR⟩;obtain⟨d,hd,kv⟩:=gI.o w4 sb c4 _ mh;have HD:=J hd;have aE:=J (aj.o.trans aR);clear hd mh aR mu gI;go_wp2_with fail;go_ret;exact⟨d,rfl,HD.o,aE.o⟩
end Big
end Go.Proofs.YtkoaogkknnelaaaGreatDoor
