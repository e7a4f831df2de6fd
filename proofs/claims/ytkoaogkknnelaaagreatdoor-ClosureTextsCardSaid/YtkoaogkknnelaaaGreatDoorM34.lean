import Derived.Test.YtkoaogkknnelaaaGreatDoorM33
import Derived.Test.YtkoaogkknnelaaaGreatDoorShelf6
set_option linter.unusedVariables false
set_option linter.unusedSimpArgs false
set_option maxHeartbeats 8000000
set_option maxRecDepth 100000
namespace Go.Proofs.YtkoaogkknnelaaaGreatDoor
namespace Big
open Lib renaming hid → J
def Nw(ns:List Nd)(f:Tx->Option Int)(t s:Tx):Prop:=∃n:Nat,f t=some (n:Int)/\AK ns n s
inductive CW (ns:List Nd) (f:Tx->Option Int) (T:Tx->Prop):Tx->Prop where
 |here {t:Tx}:T t->CW ns f T t
 |step {t s:Tx}:CW ns f T t->Nw ns f t s->CW ns f T s
def Ui(env:Env)(f:Tx->Option Int):Prop:=∀t,f t=if 0<=AH env t then some (AH env t) else none
theorem RT{ns:List Nd}{env:Env}{f:Tx->Option Int}(hf:Ui env f){T:Tx->Prop}(t:Tx):CW ns f T t↔AO ns env T t:=by
 constructor
 ·intro h
  induction h with
  |here h=>exact .here h
  |step _ h ih=>
   obtain⟨n,h1,h2⟩:=h;rw[hf]at h1;split at h1
   ·injection h1 with h1
    exact .step ih (by omega) (by rw[h1];exact h2)
   ·cases h1
 ·intro h
  induction h with
  |here h=>exact .here h
  |step _ h1 h2 ih=>exact .step ih ⟨_,by rw[hf,if_pos h1];congr 1;omega,h2⟩
structure E3 (ns:List Nd) (f:Tx->Option Int) (T S:Tx->Prop) (L:List Tx):Prop where
 seen:∀t,S t->CW ns f T t
 wait:∀t∈L,CW ns f T t
 base:∀t,T t->S t\/t∈L
 clos:∀t s,S t->Nw ns f t s->S s\/s∈L
section
variable {ns:List Nd} {f:Tx->Option Int} {T S:Tx->Prop} {L:List Tx}
theorem E3.start{l:List Tx}(h:∀t,T t↔t∈l):E3 ns f T (fun _=>False) l:=
 ⟨fun _ h=>h.elim,fun t ht=> .here ((h t).2 ht),fun t ht=> .inr ((h t).1 ht),fun _ _ h=>h.elim⟩
theorem E3.old{x:Tx}(h:E3 ns f T S (L++[x]))(hx:S x):E3 ns f T S L:=by
 have key:∀s,S s\/s∈L++[x]->S s\/s∈L:=by
  intro s hs;rcases hs with hs|hs
  ·exact .inl hs
  ·rcases qax.1 hs with hs|hs
   ·exact .inr hs
   ·rw[qav]at hs;subst hs;exact .inl hx
 exact⟨h.seen,fun t ht=>h.wait t (qaT _ ht),fun t ht=>key t (h.base t ht),fun t s ht hs=>key s (h.clos t s ht hs)⟩
theorem E3.new{x:Tx}{l:List Tx}(h:E3 ns f T S (L++[x]))(hl:∀s,Nw ns f x s↔s∈l):E3 ns f T (fun t=>t=x\/S t) (L++l):=by
 have hx:CW ns f T x:=h.wait x (by simp);have key:∀s,S s\/s∈L++[x]->(s=x\/S s)\/s∈L++l:=by
  intro s hs;rcases hs with hs|hs
  ·exact .inl (.inr hs)
  ·rcases qax.1 hs with hs|hs
   ·exact .inr (qaT _ hs)
   ·rw[qav]at hs;exact .inl (.inl hs)
 refine⟨?_,?_,fun t ht=>key t (h.base t ht),?_⟩
 ·rintro t (rfl|ht)
  ·exact hx
  ·exact h.seen t ht
 ·intro t ht;rcases qax.1 ht with ht|ht
  ·exact h.wait t (qaT _ ht)
  ·exact .step hx ((hl t).2 ht)
 ·rintro t s (rfl|ht) hs
  ·exact .inr (qbK _ ((hl s).1 hs))
  ·exact key s (h.clos t s ht hs)
theorem E3.done(h:E3 ns f T S [])(t:Tx):S t↔CW ns f T t:=by
 constructor
 ·exact h.seen t
 ·intro ht
  induction ht with
  |here ht=>exact(h.base _ ht).resolve_right (by simp)
  |step _ hs ih=>exact(h.clos _ _ ih hs).resolve_right (by simp)
end
noncomputable def unS(S:Tx->Prop)(t:Tx):Bool:= @decide (¬S t) (Classical.propDecidable _)
theorem GL{S:Tx->Prop}{t:Tx}(h:¬S t):unS S t=true:= @decide_eq_true _ (Classical.propDecidable _) h
theorem F3{S:Tx->Prop}{t:Tx}(h:S t):¬unS S t=true:=fun h2=> @of_decide_eq_true _ (Classical.propDecidable _) h2 h
noncomputable def Ek(U:List Tx)(S:Tx->Prop):Nat:=(U.filter (unS S)).length
theorem Ss(U:List Tx)(S:Tx->Prop):Ek U S<=U.length:=List.length_filter_le _ _
theorem JD(x:Tx)(S:Tx->Prop):∀U:List Tx,Ek U (fun t=>t=x\/S t)<=Ek U S
 |[]=>qad _
 |v::V=>by
  have ih:=JD x S V;unfold Ek at *;by_cases h1:S v
  ·rw[qaP (F3 (Or.inr h1)),qaP (F3 h1)];exact ih
  ·rw[qaJ (GL h1),qat];by_cases h2:v=x
   ·rw[qaP (F3 (Or.inl h2))];omega
   ·rw[qaJ (GL (fun h=>h.elim h2 h1)),qat];omega
theorem MY{S:Tx->Prop}{x:Tx}(hs:¬S x):∀{U:List Tx},x∈U->Ek U (fun t=>t=x\/S t)<Ek U S
 |[],hx=>by cases hx
 |u::U,hx=>by
  have hm:=JD x S U;by_cases hu:u=x
  ·subst hu;unfold Ek at *;rw[qaP (F3 (Or.inl rfl)),qaJ (GL hs),qat];omega
  ·have hx':x∈U:=by
    rcases qay.1 hx with h|h
    ·exact absurd h.symm hu
    ·exact h
   have ih:=MY hs hx';unfold Ek at *;by_cases h1:S u
   ·rw[qaP (F3 (Or.inr h1)),qaP (F3 h1)];exact ih
   ·rw[qaJ (GL (fun h=>h.elim hu h1)),qaJ (GL h1),qat,qat];omega
open Go.RowKit Go.Maps Go.Sort
theorem BN.nil(B:Nat)(w:World):BN B w (.slice none 0 0) []:=⟨rfl,.inl ⟨rfl,rfl⟩⟩
theorem BN.ext{B:Nat}{w w':World}{v:Value}{ls:List Tx}(h:BN B w v ls)(hx:Ext w w'):BN B w' v ls:=Ac h (fun k _ hk=>hx.block k hk)
theorem BN.shape{B:Nat}{w:World}{v:Value}{ls:List Tx}(h:BN B w v ls):∃A c,v= .slice A ls.length c:=Ao h
theorem BN.cells{B:Nat}{w:World}{v:Value}{ls:List Tx}(h:BN B w v ls):(ls=[]/\v= .slice none 0 0)\/∃g c,v= .slice (some ⟨g,0,none⟩) ls.length c/\B<=g/\∀(j:Nat) u,(ls.map str)[j]? =some u->w.cell? ⟨g,j,none⟩=some u:=by
 have h':=h;unfold BN at h;rcases h.2 with ⟨h1,h2⟩|⟨g,cap,cur,hv,hg,_⟩
 ·exact .inl ⟨qau h2,h1⟩
 ·subst hv;refine .inr ⟨g,cap,rfl,hg,fun j u hj=> ?_⟩;have hl:j<ls.length:=by
   rcases qam j ls.length with h|h
   ·exact h
   ·rw[qaz (by rw[qag];exact h)]at hj;cases hj
  rw[h.cellAt j (by omega),hj]
theorem NP(B:Nat)(w:World)(v:Value)(ls:List Tx)(h:BN B w v ls)(hl:ls.length<=1000000):
  Calls Tryz.prog 154 #[v] w fun e w'=>∃v',e= .returned v'/\BN w.heap.size w' v' ls/\Ext w w':=by
 rcases h.cells with ⟨rfl,rfl⟩|⟨g,c,rfl,_,hc⟩
 ·refine(AnyE.slices_Clone_nil Tryz.cloneTxIt 0 0 w).mono ?_
  rintro e w' ⟨rfl,rfl⟩;exact⟨_,rfl,BN.nil _ _,Ext.refl _⟩
 ·obtain⟨i0,hi,aR,hz1,aU⟩:=info_parts ES;have h:=AnyE.slices_Clone Tryz.cloneTxIt i0 (.string ⟨#[]⟩) 1 16 hi aR hz1 aU rfl (by decide) (fun w=>by kernel_rfl) g 0 ls.length c (ls.map str) w (by rw[qag,qbj]) (by unfold maxLen;omega) (by omega) (fun j u hj=>by rw[qaF];exact hc j u hj) (fun u hu=>by
   obtain⟨x,_,rfl⟩:=qbJ.1 hu;rfl)
  refine h.mono ?_
  rintro e w' ⟨v',rfl,ho,_,hx⟩;exact⟨v',rfl,ho,hx⟩
theorem AK.lt{ns:List Nd}{i:Nat}{t:Tx}(h:AK ns i t):i<ns.length:=by
 obtain⟨j,x,hr,hx,_⟩:=h;have key:∀j,Bn ns i j->i=j\/i<ns.length:=by
  intro j hr
  induction hr with
  |here=>exact .inl rfl
  |down h ha ih=>
   rcases ih with rfl|ih
   ·right
    unfold BQ at ha;split at ha
    ·rename_i hx;exact(qai.1 hx).1
    ·cases ha
   ·exact .inr ih
 rcases key j hr with rfl|h
 ·exact(qai.1 hx).1
 ·exact h
theorem Mb{ns:List Nd}{f:Tx->Option Int}{x:Tx}{z:Int}{l:List Tx}(hf:f x=some z)(hl:Bs ns z l)(s:Tx):Nw ns f x s↔s∈l:=by
 unfold Bs at hl;split at hl
 ·rename_i hz;rw[hl.2 s];constructor
  ·rintro⟨n,h1,h2⟩;rw[hf]at h1;injection h1 with h1
   subst h1;exact h2
  ·intro h;exact⟨z.toNat,by rw[hf];congr 1;omega,h⟩
 ·rename_i hz;subst hl;constructor
  ·rintro⟨n,h1,h2⟩;rw[hf]at h1;injection h1 with h1
   have:=h2.lt;omega
  ·intro h;cases h
theorem NM{ns:List Nd}{f:Tx->Option Int}{x:Tx}(hf:f x=none)(s:Tx):Nw ns f x s↔s∈([]:List Tx):=by
 constructor
 ·rintro⟨n,h1,_⟩;rw[hf]at h1;cases h1
 ·intro h;cases h
theorem Bs.texts{ns:List Nd}{z:Int}{l:List Tx}(hs:Ax ns)(hl:Bs ns z l):l.length<=ns.length/\∀t∈l,t∈Dz ns:=by
 unfold Bs at hl;split at hl
 ·exact⟨hl.len,fun t ht=>((hl.2 t).1 ht).mem⟩
 ·subst hl;exact⟨qal _,fun t ht=>by cases ht⟩
theorem CJ{ns:List Nd}(hs:Ax ns):∀t∈Dz ns,t.length<=400:=by
 intro t ht;obtain⟨x,hx,rfl⟩:=qbJ.1 ht;obtain⟨i,hi,rfl⟩:=List.mem_iff_getElem.1 hx;exact(hs.2 i _ (qaa hi)).text
theorem DM(B g b:Nat)(w:World)(ns:List Nd)(nv:Value)(h:GrP B g b w ns nv)(i:Int):
  Calls Tryz.prog 42 #[.pointer (some ⟨g,0,none⟩),.int .i64 i] w (Dc ns i w):=by
 by_cases hi:0<=i/\i<(ns.length:Int)
 ·obtain⟨k,rfl⟩:∃k:Nat,(k:Int)=i:=⟨i.toNat,by omega⟩;exact OD B g b w ns nv h k (by omega)
 have HO:=J (Bs.o (ns:=ns) (i:=i) (by omega));have k0:=h.blk.twoG;obtain⟨A,c,rfl⟩:=h.row.shape;clear h;by_cases h0:i<0
 ·have hd:decide (i<0)=true:=decide_eq_true h0;clear hi;go_enter Tryz.func42,Tryz.ntmps42;go_wp2_with fail;go_ret;exact⟨_,[],rfl,CX.none_ w,HO.o,by decide,Ext.refl w,BN.nil _ _⟩
 ·have hd:decide (i<0)=false:=decide_eq_false h0;have h1:(ns.length:Int)<=i:=by omega
  have bE:decide (i>=(ns.length:Int))=true:=decide_eq_true h1;have oR:decide ((ns.length:Int)<=i)=true:=decide_eq_true h1;clear hi;go_enter Tryz.func42,Tryz.ntmps42;go_wp2_with fail;go_ret;exact⟨_,[],rfl,CX.none_ w,HO.o,by decide,Ext.refl w,BN.nil _ _⟩
theorem Eh{P:Program}{e:TypeId}(he:P.underlying e=some .bool){v:Value}{z:DataW Unit × List MemPlace}(h:plainElem P e v=some z):∃x,v= .bool x/\z=(.lit (.bool x),[]):=by
 unfold plainElem at h;rw[he]at h;cases v<;>simp at h;exact⟨_,rfl,h.symm⟩
open Classical in
noncomputable def GQ(S:Tx->Prop):Lit->Option Lit
 | .string t=>if S t then some (.bool true) else none
 |_=>none
def Ev(w:World)(b m:Nat)(S:Tx->Prop):Prop:=AP 9 4 w b m (GQ S)
section
variable {w w':World} {b m:Nat} {S:Tx->Prop}
theorem Ev.made(w:World):Ev (w.alloc (.map #[] 0)) w.heap.size 0 (fun _=>False):=(AP.made _ _ w).congr (fun k=>by cases k<;>simp[GQ])
theorem Ev.congr{S':Tx->Prop}(h:Ev w b m S)(hs:∀t,S t↔S' t):Ev w b m S':=by
 have:S=S':=funext fun t=>propext (hs t)
 subst this;exact h
theorem Ev.put(h:Ev w b m S)(hm:m<maxLen)(t:Tx)(ht:t.length<=maxLen):
  ∃w',(Instr.mapUpdate 151 (.map (some b)) (str t) (.bool true)).run Tryz.prog w= .ok () w'/\Ev w' b (m+1) (fun x=>x=t\/S x)/\w.grownBy w' (some b):=by
 obtain⟨w',hr,ho,hg⟩:=AP.put (string_keyed Tryz.underlying9) Tryz.underlying151 h hm (ER t ht) (plainElem_bool Tryz.underlying4 true);refine⟨w',hr,AP.congr ho (fun k=> ?_),hg⟩;cases k with
 |string x=>
  by_cases hx:x=t
  ·subst hx;simp[GQ]
  ·by_cases hs:S x<;>simp[GQ,hx,hs]
 |_=>simp[GQ]
open Classical in
theorem Ev.look(h:Ev w b m S)(t:Tx)(ht:t.length<=maxLen):(Instr.lookup 151 (.map (some b)) (str t) false).run Tryz.prog w= .ok (.bool (decide (S t))) w:=by
 obtain⟨D,h,h2,h3⟩:=h;have hz:(zeroValue 4).run Tryz.prog w= .ok (.bool false) w:=by kernel_rfl
 have nS:plainElem (H:=Unit) Tryz.prog 4 (.bool false)=some (.lit (.bool false),[]):=plainElem_bool Tryz.underlying4 false;obtain⟨v,ps,hr,hv⟩:=h.lookup (string_keyed Tryz.underlying9) Tryz.underlying151 hz nS (ER t ht);obtain⟨x,rfl,hc⟩:=Eh Tryz.underlying4 hv;simp only[Prod.mk.injEq]at hc;have h4:=h2 (.string t) (.lit (.bool false));rw[hc.1]at h4;rw[hr];by_cases hs:S t
 ·have:x=true:=by simpa [GQ,hs] using h4
  rw[this,decide_eq_true hs]
 ·have:x=false:=by simpa [GQ,hs] using h4
  rw[this,decide_eq_false hs]
theorem Ev.set(h:Ev w b m S):Do w b m S:=by
 obtain⟨D,h,h2,h3⟩:=h;refine⟨D,h,fun t=> ?_⟩;rw[h3];by_cases hs:S t<;>simp[GQ,hs]
end
theorem BN.take{B:Nat}{w:World}{A:Option Addr}{c:Nat}{L:List Tx}{x:Tx}(h:BN B w (.slice A (L.length+1) c) (L++[x])):BN B w (.slice A L.length c) L:=by
 have h':w.ownsRow B 9 1 (.slice A (L.length+1) c) (L.length+1) ((L++[x]).map str):=by
  unfold BN at h
  rwa [qab,qae]at h
 have h2:=Dm h' (Nat.le_succ L.length);rw[qbj,qaB,List.take_append_of_le_length (by rw[qag];exact qad _),qak (by rw[qag];exact qad _)]at h2;exact h2
theorem BN.at{B:Nat}{w w':World}{v:Value}{L:List Tx}(h:BN B w v L){b:Nat}(hb:b<B)(hg:w.grownBy w' (some b)):BN B w' v L:=by
 refine AD h (fun k hk=>hg.block k (Aj h hk) (fun e=> ?_));injection e with e
 have:=(AV h k hk).1;omega
theorem AP.past{K E:TypeId}{w w':World}{b m:Nat}{f:Lit->Option Lit}(h:AP K E w b m f){B:Nat}{v:Value}{L:List Tx}(ho:BN B w v L)(hb:b<B)(hg:w.grownBy w' v.ownBlock):AP K E w' b m f:=
 h.at (hg.block b h.lt (fun e=>by have:=(AV ho b e.symm).1;omega))
theorem Rj(g j:Nat):(⟨g,0,none⟩:Addr).add j=⟨g,j,none⟩:=by
 unfold Addr.add;split
 ·rename_i h;subst h;rfl
 ·simp
open Classical in
theorem Ev.look2{w:World}{b m:Nat}{S:Tx->Prop}(h:Ev w b m S)(t:Tx)(ht:t.length<=maxLen):∃d:Bool,(d=true↔S t)/\(Instr.lookup 151 (.map (some b)) (str t) false).run Tryz.prog w= .ok (.bool d) w:=⟨_,decide_eq_true_iff,h.look t ht⟩
def F0(ns:List Nd)(f:Tx->Option Int)(T:Tx->Prop)(w:World)(e:Ending)(w':World):Prop:=∃sb c,e= .returned (.map (some sb))/\w.heap.size<=sb/\Ev w' sb c (CW ns f T)/\c<=10000/\Ext w w'
theorem Gx(B g b:Nat)(w:World)(ns:List Nd)(nv:Value)(h:GrP B g b w ns nv)(bm cb:Nat)(f:Tx->Option Int)(hb:DR w bm cb f)(B':Nat)(v:Value)(ls:List Tx)(hv:BN B' w v ls)(gZ:ls.length<=5000)(hlt:∀t∈ls,t.length<=1000000)(T:Tx->Prop)(hT:∀t,T t↔t∈ls):
  Calls Tryz.prog 98 #[.pointer (some ⟨g,0,none⟩),.map (some bm),v] w (F0 ns f T w):=by
 have HG:=J h;have HB:=J hb;have hfew:=h.few;obtain⟨U,hU⟩:∃U,U=ls++Dz ns:=⟨_,rfl⟩;have hUl:U.length<=9096:=by
  rw[hU,qab];unfold Dz;rw[qag];omega
 have yc:Hid (∀t∈U,t.length<=1000000):=J (fun t ht=>by
  rw[hU]at ht;rcases qax.1 ht with ht|ht
  ·exact hlt t ht
  ·have:=CJ HG.o.ok t ht;omega)
 have zG:Hid (∀t∈Dz ns,t∈U):=J (fun t ht=>by rw[hU];exact qbK _ ht);have Wq:Hid (∀t∈ls,t∈U):=J (fun t ht=>by rw[hU];exact qaT _ ht);have aP:=J (E3.start (ns:=ns) (f:=f) hT);have HL0:=J (Ss U (fun _=>False));have cw:=J (fun W hx=>NP B' W v ls (hv.ext (w':=W) hx) (by omega));have hmm:=fun W=> @run_makeMap Tryz.prog 151 W
 have pC:=J (Ev.made w);have eo:=J ((Ext.refl w).alloc (.map #[] 0));have jp:(w.alloc (.map #[] 0)).heap.size=w.heap.size+1:=by simp
 obtain⟨A0,c0,rfl⟩:=hv.shape;obtain⟨n0,hn0⟩:∃n0,n0=ls.length:=⟨_,rfl⟩;rw[<-hn0]at gZ cw ⊢;have ji:=J hn0;unfold F0;clear h hb hv hlt hT hU hn0;go_enter Tryz.func98,Tryz.ntmps98;go_upto_region 2 with fail;obtain⟨sb,hsb⟩:∃sb,w.heap.size=sb:=⟨_,rfl⟩;rw[hsb]at pC ⊢;have hW:Hid (w.heap.size<=sb):=J (by omega);generalize w.alloc (.map #[] 0)=w1 at *;have jW:Hid (sb<w1.heap.size):=J (by omega);clear hmm jp hsb;go_wp2_with fail;refine(cw.o w1 eo.o).mono ?_
 rintro e w2 ⟨v2,rfl,bN,al⟩;have eF:=J bN;have am:=J (eo.o.trans al);have dK:=J (AP.ext pC.o al);clear bN al cw pC eo;go_wp2_with fail
 go_loopg [8,9,10,11] (Ek U (fun _=>False)*10000+n0) (fun gh s8 _ _ _ wr=>∃(S:Tx->Prop) (L:List Tx) (c:Nat),gh=Ek U S*10000+L.length/\BN w1.heap.size wr s8 L/\Ev wr sb c S/\E3 ns f T S L/\(∀t∈L,t∈U)/\c+Ek U S<=U.length/\L.length<=5000+c*4096/\Ext w wr)
 case atStart=>exact⟨_,ls,0,by rw[ji.o],eF.o,dK.o,aP.o,Wq.o,by have:=HL0.o;omega,by have:=ji.o;omega,am.o⟩
 case round=>
  clear eF dK aP am;obtain⟨S,L,c,iT,ho,hm,hs,V6,hc,Yn,hx⟩:=hrel;have fo:=J iT;have HX:=J hx;have HO:=J ho;have HM:=J hm;have HS:=J hs;clear iT hx ho hm hs;have hLL:L=[]\/∃L' x,L=L'++[x]:=by
   rcases List.eq_nil_or_concat L with h|⟨a,b,h⟩
   ·exact .inl h
   ·exact .inr ⟨a,b,by rw[h,List.concat_eq_append]⟩
  rcases hLL with rfl|⟨L',x,rfl⟩
  ·obtain⟨A,c2,rfl⟩:=HO.o.shape;have HF:=J (Ev.congr HM.o HS.o.done);clear HO HM HS;go_wp2_with fail;go_ret;exact⟨sb,c,rfl,hW.o,HF.o,by omega,HX.o⟩
  ·have nK:Hid ((L'++[x]).length=L'.length+1):=J (by rw[qab,qae]);obtain⟨gb,c2,ro,cW,bj⟩:∃gb c2,u8= .slice (some ⟨gb,0,none⟩) (L'.length+1) c2/\w1.heap.size<=gb/\wr.cell? ⟨gb,L'.length,none⟩=some (str x):=by
    rcases HO.o.cells with ⟨h,_⟩|⟨gb,c2,h1,h2,h3⟩
    ·simp at h
    ·exact⟨gb,c2,by rw[<-nK.o];exact h1,h2,h3 L'.length _ (by rw[qaD,qao (qad _),qaX];rfl)⟩
   subst ro;have eA:L'.length+1<=c2:=by
    rcases HO.o.2 with ⟨h,_⟩|⟨g',cap,cur,h,_,_,h2,_⟩
    ·cases h
    ·rw[nK.o]at h h2;injection h with _ _ h
     omega
   have dP:=J (BN.take HO.o);rw[nK.o]at fo Yn;have UB:x∈U:=V6 x (by simp);have HXU:=J UB;have Zp:=yc.o x UB;have nJ:Hid (∀t∈L',t∈U):=J (fun t ht=>V6 t (qaT _ ht));have ib:=J (fun h=>HS.o.old h);have jD:=J (fun l h=>E3.new (l:=l) HS.o h);clear V6 nK HO HS UB;obtain⟨sx,uQ,lZ⟩:=HM.o.look2 x (by unfold maxLen;omega);have zJ:=J uQ;clear uQ;have aE:=J (HM.o.put (by unfold maxLen;omega) x (by unfold maxLen;omega));have kO:=J (fun W (h:DR W bm cb f)=>h.look x (by unfold maxLen;omega));obtain⟨s,hs⟩:∃s:ByteArray,str x= .string s:=⟨_,rfl⟩;rw[hs]at bj lZ aE kO;obtain⟨m,hm⟩:∃m,m=L'.length:=⟨_,rfl⟩;rw[<-hm]at bj eA dP fo Yn ⊢;have eh:=J hm;have aB:IntKind.i64.wrap (((m+1:Nat):Int)-1)=(m:Int):=by rw[IntWalk.i64_in _ (by omega)];omega
   have aY:IntKind.i64.wrap (((m:Int)+1)-1)=(m:Int):=by rw[IntWalk.i64_in _ (by omega)];omega
   have wO:(0:Int)<=(m:Int):=by omega
   have jP:(m:Int)<((m+1:Nat):Int):=by omega
   have cZ:(m:Int)<=(c2:Int):=by omega
   have rD:(m:Int)<=((m+1:Nat):Int):=by omega
   have mH:(0:Int)<((m+1:Nat):Int):=by omega
   have jw:decide (((m+1:Nat):Int)>0)=true:=decide_eq_true mH;clear hs hm;rcases sx with _|_
   rotate_left
   ·have WE:=J (ib.o (zJ.o.1 rfl));clear zJ ib jD aE kO;go_wp2_with fail
    go_roundg (Ek U S*10000+m)
    case rel=>exact⟨S,L',c,by rw[eh.o],by rw[eh.o];rw[eh.o]at dP;exact dP.o,HM.o,WE.o,nJ.o,hc,by have:=eh.o;omega,HX.o⟩
    case measure=>rw[fo.o];omega
   ·have bD:=J (MY (S:=S) (fun h=>by have:=zJ.o.2 h;cases this) HXU.o);clear zJ ib;obtain⟨w8,bq,qv,jh⟩:=aE.o;have zO:=J qv;have t5:=J (dP.o.at jW.o jh);have cp:=J (HX.o.grown jh (fun k e=>by injection e with e;subst e;exact hW.o));obtain⟨hl1,_⟩:=kO.o w8 (AP.ext HB.o cp.o);clear qv jh aE dP;rcases hfx:f x with _|z
    ·rw[hfx]at hl1;have fE:=J (jD.o [] (NM hfx));rw[qaW]at fE;clear jD hfx;go_wp2_with fail
     go_roundg (Ek U (fun t=>t=x\/S t)*10000+m)
     case rel=>exact⟨_,L',c+1,by rw[eh.o],by rw[eh.o];rw[eh.o]at t5;exact t5.o,zO.o,fE.o,nJ.o,by have:=bD.o;omega,by have:=eh.o;omega,cp.o⟩
     case measure=>rw[fo.o];have:=bD.o;omega
    ·rw[hfx]at hl1;have db:=J (DM B g b w8 ns nv (HG.o.keep cp.o) z);unfold Dc at db;have aP:=J (fun l (hl:Bs ns z l)=>jD.o l (Mb hfx hl));clear jD hfx;go_wp2_with fail;refine db.o.mono ?_
     rintro e w9 ⟨v9,l,rfl,_,eZ,Z9,ja,lU⟩;obtain⟨hl2,je⟩:=Bs.texts HG.o.ok eZ;have dR:Hid (l.length<=4096):=J (by omega);have fE:=J (aP.o l eZ);have yy:=J (AP.ext zO.o ja);have qV:=J (t5.o.ext ja);have dI:=J (cp.o.trans ja);have yA:Hid (∀t∈L'++l,t∈U):=J (fun t ht=>by
      rcases qax.1 ht with ht|ht
      ·exact nJ.o t ht
      ·exact zG.o t (je t ht))
     have kM:=J lU.cells;have fV:Hid (w1.heap.size<=w9.heap.size):=J (by have:=(AV qV.o gb rfl).2;omega);have dt:Hid (w9.ownsRow w1.heap.size 9 1 (.slice (some ⟨gb,0,none⟩) m c2) m (L'.map str)):=J (by
      have:=qV.o;unfold BN at this
      rwa [<-eh.o]at this)
     obtain⟨i0,hi,aR,hz1,aU⟩:=info_parts ES;have yJ:=J (And.intro hi (And.intro aR (And.intro hz1 aU)));obtain⟨ln,wQ⟩:∃ln,ln=l.length:=⟨_,rfl⟩;have dh:=J wQ;clear eZ Z9 hl2 je ja lU aP db nJ hi aR hz1 aU wQ hl1 bq lZ bj;rcases kM.o with ⟨rfl,rfl⟩|⟨g9,c9,rfl,_,oU⟩
     ·go_wp2_with (at_builtin;go_must (refine wpList_append_own_none rfl _ _ 30 rfl w1.heap.size 9 i0 1 Tryz.underlying30 yJ.o.1 _ m _ rfl dt.o rfl ?_))
      go_roundg (Ek U (fun t=>t=x\/S t)*10000+m)
      case rel=>exact⟨_,L'++[],c+1,by rw[qaW,eh.o],by rw[qaW,eh.o];have:=qV.o;rw[eh.o]at this;exact this,yy.o,fE.o,yA.o,by have:=bD.o;omega,by rw[qaW];have:=eh.o;omega,dI.o⟩
      case measure=>rw[fo.o];have:=bD.o;omega
     ·have mw:=J oU;clear oU;rw[<-dh.o];go_wp2_with (at_builtin;go_must (refine wpList_append_own _ rfl _ _ 30 rfl w1.heap.size 9 i0 _ 1 16 Tryz.underlying30 yJ.o.1 yJ.o.2.1 yJ.o.2.2.1 yJ.o.2.2.2 rfl (by decide) _ m _ rfl dt.o ⟨g9,0,none⟩ ln c9 (l.map str) rfl (by rw[qag,qbj,dh.o]) (fun j u hj=>by rw[Rj];exact mw.o j u hj) (fun u hu=>by obtain⟨y,_,rfl⟩:=qbJ.1 hu;rfl) (by unfold maxLen;have:=dh.o;have:=dR.o;omega) (by have:=dh.o;have:=dR.o;omega) fV.o ?_;intro v' w' ac hgr _;have gK:=J ac;have lI:=J (yy.o.past qV.o jW.o hgr);have mf:=J (dI.o.grown hgr (fun k e=>by injection e with e;subst e;exact qaf (qaf hW.o (qaR jW.o)) (AV dt.o gb rfl).1));clear ac hgr))
      go_roundg (Ek U (fun t=>t=x\/S t)*10000+(m+ln))
      case rel=>exact⟨_,L'++l,c+1,by rw[qab,eh.o,dh.o],by unfold BN;rw[qab,qaB,<-eh.o,<-dh.o];exact gK.o,lI.o,fE.o,yA.o,by have:=bD.o;omega,by rw[qab];have:=eh.o;have:=dR.o;omega,mf.o⟩
      case measure=>rw[fo.o];have:=bD.o;have:=dh.o;have:=dR.o;omega
def Bi(ns:List Nd)(z:Int)(t:Tx):Prop:=0<=z/\z<(ns.length:Int)/\AK ns z.toNat t
theorem Bi.mem{ns:List Nd}{z:Int}{l:List Tx}(hl:Bs ns z l)(t:Tx):Bi ns z t↔t∈l:=by
 unfold Bs at hl;split at hl
 ·rename_i hz;rw[hl.2 t];exact⟨fun h=>h.2.2,fun h=>⟨hz.1,hz.2,h⟩⟩
 ·rename_i hz;subst hl;exact⟨fun h=>absurd ⟨h.1,h.2.1⟩ hz,fun h=>by cases h⟩
theorem IZ{w:World}{v:Value}{env:Env}(h:RdE w v env):∃A c,v= .slice A env.length c:=by
 obtain⟨A,c,hv,_⟩:=h;exact⟨A,c,hv⟩
theorem OT(B g b:Nat)(w:World)(ns:List Nd)(nv:Value)(h:GrP B g b w ns nv)(v:Value)(env:Env)(he:RdE w v env)(hn:env.length<=100000)(dy:TxE env)(t:Tx)(ht:t.length<=1000000)(id:Int):
  Calls Tryz.prog 48 #[.pointer (some ⟨g,0,none⟩),v,str t,.int .i64 id] w fun e w'=>∃d:Bool,e= .returned (.bool d)/\(d=true↔CW ns (fun x=>if x=t then none else Cg env x) (Bi ns id) t)/\Ext w w':=by
 have HG:=J h;have aW:=J (EC w v env he hn dy);obtain⟨A,c,rfl⟩:=IZ he;have zT:=J (fun W bm cb (hb:DR W bm cb (Cg env))=>hb.del t (by unfold maxLen;omega));have gQ:=J (fun W sb cs S (hs:Ev W sb cs S)=>hs.look2 t (by unfold maxLen;omega));obtain⟨s,hs⟩:∃s:ByteArray,str t= .string s:=⟨_,rfl⟩;rw[hs]at zT gQ ⊢;clear h he hs;go_enter Tryz.func48,Tryz.ntmps48;go_wp2_with fail;refine aW.o.mono ?_
 rintro e w1 ⟨bm,rfl,ee,av,ar⟩;have ah:=J ar;have ah:=J ar;obtain⟨w2,hr2,hb2,ks⟩:=zT.o w1 bm _ av 0;have aF:=J hb2;have am:=J (ar.grown ks (fun k e=>by injection e with e;subst e;exact ee));clear av hb2 ks ar ee aW zT;have db:=J (DM B g b w2 ns nv (HG.o.keep am.o) id);unfold Dc at db;go_wp2_with fail;refine db.o.mono ?_
 rintro e w3 ⟨v3,l,rfl,_,eZ,_,ae,lU⟩;have ag:=J (am.o.trans ae);obtain⟨hl2,je⟩:=Bs.texts HG.o.ok eZ;have hfew:=HG.o.few;have mX:=J (Gx B g b w3 ns nv (HG.o.keep ag.o) bm _ _ (AP.ext aF.o ae) _ v3 l lU (by omega) (fun t ht=>by have:=CJ HG.o.ok t (je t ht);omega) (Bi ns id) (Bi.mem eZ));unfold F0 at mX;obtain⟨A3,c3,rfl⟩:=lU.shape;clear eZ ae lU hl2 je hfew db hr2;go_wp2_with fail;refine mX.o.mono ?_
 rintro e w4 ⟨sb,c4,rfl,_,kU,_,aJ⟩;obtain⟨d,hd,lZ⟩:=gQ.o w4 sb c4 _ kU;have HD:=J hd;have aD:=J (ag.o.trans aJ);clear hd kU aJ mX gQ;go_wp2_with fail;go_ret;exact⟨d,rfl,HD.o,aD.o⟩
end Big
end Go.Proofs.YtkoaogkknnelaaaGreatDoor
