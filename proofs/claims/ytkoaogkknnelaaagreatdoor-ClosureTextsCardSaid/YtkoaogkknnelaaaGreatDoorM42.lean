import Derived.Test.YtkoaogkknnelaaaGreatDoorRows
import Derived.ProofKit
import Derived.LaidMore
import Derived.OpenShut
import Derived.Stop.Joined
import Derived.Lib.LaidTab
import Derived.Carry
import Derived.Handed
import Derived.HandedShaped
import Derived.Deep.Strs
import Derived.ChangeMaps5
import Derived.Lib.SmallJoins
import Derived.Test.YtkoaogkknnelaaaGreatDoorM6
set_option linter.unusedVariables false
set_option linter.unusedSimpArgs false
set_option maxRecDepth 100000
namespace Go.Proofs.YtkoaogkknnelaaaGreatDoor
open Go.ChangeShapes Go.WideShapes Go.ChangeAt Go.RowKit
section
variable {H:Type} {enc:TypeId × Value->H} {P:Program}
theorem Gn(hl:laidOutB P=true){W W':World}(hb:Big.Ext W W'):∀(ts:List TypeId) (vs:List Value) (ds:List (DataW H)) (ps:List MemPlace),
  (∀t∈ts,P.readableRec t=true/\t<P.types.size)->DataW.TrodAll enc P W 0 (fun _=>true) true ts vs ds ps->(∀x∈ps,x.block<W.heap.size)->
  DataW.TrodAll enc P W' 0 (fun b=>decide (b<W.heap.size)) true ts vs ds ps
 |[],vs,ds,ps,_,h,_=>by
  obtain⟨rfl,rfl,rfl⟩:=trodAll_nil h;exact trodAll_mk0
 |t::ts,vs,ds,ps,ht,h,hlt=>by
  obtain⟨v,vp,d,ds',p,q,rfl,rfl,rfl,h1,h2⟩:=trodAll_cons h;exact trodAll_cons_mk (Below.trod hl (ht t (by simp)).1 (ht t (by simp)).2 h1 hb (fun x hx=>hlt x (List.mem_append_left _ hx)))
   (Gn hl hb ts vp ds' q (fun t' h'=>ht t' (by simp[h'])) h2 (fun x hx=>hlt x (List.mem_append_right _ hx)))
theorem Qh {f:Func} {s:ChangeSpec} {W W':World} {args:Array Value} {ds gs:List (DataW H)} {before:List MemPlace} {tb:TypeId} (hl:laidOutB P=true)
  (rq:(f.params.toList.all fun t=>P.readableRec t && decide (t<P.types.size))=true) (hv:s.vars=[]) (hr:f.resultTypes= #[tb]) (ze:P.underlying tb=some .bool)
  (hW:DataW.Whole enc P f.params.toList s.vars false W args.toList ds gs before) (hfn:s.fn H ds={ results:=[.lit (.bool true)],args:=ds }) (hb:Big.Ext W W'):
  s.post enc P f false true false false W args (.bool true) W':=by
 have hlt:=hW.lt;have hW':=hW;obtain⟨p,q,hA,hV,rfl,hfz,hnd⟩:=hW;rw[hv]at hV;obtain⟨rfl,rfl⟩:=trodVars_none hV;have oN:s.fn H (ds++[])={ results:=[.lit (.bool true)],args:=ds }:=by rw[List.append_nil];exact hfn
 refine⟨ds,[],p++[],[],p,[],hW',?_,?_,?_,hb.frame _,fun h=>by cases h⟩
 ·rw[oN,hr];exact trodAll_mk1 (shut_bool ze _)
 ·rw[oN];exact Gn hl hb _ _ _ _ (fun t ht=>by
   have:=List.all_eq_true.1 rq t ht
   simpa using this) hA (fun x hx=>hlt x (by simpa using hx))
 ·rw[oN,hv];rfl
end
theorem G3 {H:Type} {enc:TypeId × Value->H} {a:Assume} {C:Checked} {os:Os} {f:FuncId} {fn:Func} {s:ChangeSpec} {rS:List PathCond} {apart rR mc rU:Bool} {X:World->Array Value->Prop}
  (hX:∀(w w':World) (args:Array Value),w.heap=w'.heap->X w args->X w' args)
  (own:ownKnob C.prog.godebug=none) (started:os.Started) (sw:C.prog.inits.idxOf? f=none) (hfn:C.prog.funcs[f]? =some fn)
  (qh:∃(w:World) (tape:Tape) (i:Input),w.os=os/\(w.forCall tape i).Shaped C.prog/\i.vars=[]/\Input.okWide C.prog (w.forCall tape i) .any w.heap.size f i/\
   ((s.pre enc C.prog fn rS apart (w.forCall tape i).memory i.args/\X (w.forCall tape i).memory i.args)/\sizedMet enc C.prog fn (OpenSpec.ofChange s) apart (w.forCall tape i).memory i.args)/\a.holds C.prog (lone (Frame.enter C.prog f i.args .normal) [] (w.forCall tape i)))
  (pa:∀(W:World) (base:Nat) (args:Array Value) (ds gs:List (DataW H)) (before:List MemPlace),
   (∀(j:Nat) t v,fn.params[j]? =some t->args[j]? =some v->Value.okWide C.prog W .any base t v)->
   DataW.Whole enc C.prog fn.params.toList s.vars apart W args.toList ds gs before->
   (DataW.weightsEach C.prog (fn.params.toList++s.plain.varTypes C.prog) (ds++gs)).all (·<=reachBytes)=true->X W args->W.ShapedOpen C.prog->
   Calls C.prog f args W fun e W'=>∃v,e= .returned v/\s.post enc C.prog fn apart rR mc rU W args v W'):
  ReturnsInHanded a C os f .any (fun w args=>(s.pre enc C.prog fn rS apart w args/\X w args)/\sizedMet enc C.prog fn (OpenSpec.ofChange s) apart w args) (s.post enc C.prog fn apart rR mc rU):=by
 refine returnsInHanded_of_calls own started sw qh ?_
 intro w tape i _ hsh _ an iW Vo;obtain⟨_,_,_,fn',oN,_,_,_,_,hval⟩:=an;have e:fn'=fn:=Option.some.inj (oN.symm.trans hfn);subst e;obtain⟨⟨⟨ds,gs,before,hw,hc⟩,hx⟩,hz⟩:=iW;have Zv:=DataW.Whole.of_heap (w':=w.forCall tape i) (by rfl) hw;refine(pa (w.forCall tape i) w.heap.size i.args ds gs before hval Zv (hz.weights hw) (hX _ _ _ (by rfl) hx) hsh).mono fun e W' ⟨v,he,hp⟩=> ?_
 subst he;exact ChangeSpec.post_blind hp
theorem Sv:laidOutB Tryz.prog=true:=by kernel_rfl
theorem own:ownKnob Tryz.prog.godebug=none:=by kernel_rfl
section
variable {P:Program} {W:World}
end
section
variable {H:Type} {enc:TypeId × Value->H} {W:World} {fuel:Nat} {v:Value} {y:DataW H × List MemPlace}
end
section
variable {H:Type} {enc:TypeId × Value->H} {W:World} {v:Value} {d:DataW H} {p:List MemPlace} {r:Reach} {b0:Nat}
end
end Go.Proofs.YtkoaogkknnelaaaGreatDoor
namespace Go.Proofs.YtkoaogkknnelaaaGreatDoor
open Go.ChangeShapes Go.WideShapes Go.ChangeAt Go.RowKit
theorem Nk:Tryz.prog.cellsOf 3=1:=by kernel_rfl
section
variable {H:Type} {enc:TypeId × Value->H} {W:World} {v:Value} {d:DataW H} {p:List MemPlace} {r:Reach} {b0:Nat}
theorem LB{fuel:Nat}{y:DataW H × List MemPlace}(h:DataW.trod enc Tryz.prog W 0 (fun _=>true) true fuel 41 [v]=some y):∃xs,Big.D1 W v xs:=by
 rcases open_ints Tryz.underlying41 Tryz.underlying3 Nk h with ⟨hv,_⟩|⟨a,len,cap,zs,hv,_,hl,hm,hz,_,hc,hw⟩
 ·injection hv with hv
  subst hv;exact⟨[],⟨(fun x hx=>by cases hx),Big.CX.none_ W⟩⟩
 ·injection hv with hv
  subst hv;simp only[if_true]at hz;refine⟨zs.take len,fun x hx=>bounds_i64 (hw x (List.mem_of_mem_take hx)),some a,cap,by simp;omega,by simp;omega,hm,fun hp=> ?_⟩;simp only[List.length_map,List.length_take]at hp;obtain⟨b,off,rfl,aa⟩:=ints_at hc (by omega);have h0:=aa 0 (by omega);refine⟨b,off,rfl,World.block_lt_of_cell? W _ h0,fun j u hj=> ?_⟩;rw[List.getElem?_map]at hj;have nA:j<len:=by
   rcases Nat.lt_or_ge j len with h|h
   ·exact h
   ·rw[List.getElem?_eq_none (by simp;omega)]at hj;cases hj
  have uV:j<zs.length:=by omega
  rw[List.getElem?_take_of_lt nA,List.getElem?_eq_getElem uV]at hj;injection hj with hj
  subst hj;rw[aa j (by omega)];have e1:zs.getD j 0=zs[j]:=by rw[List.getD_eq_getElem?_getD,List.getElem?_eq_getElem uV];rfl
  rw[e1];rfl
theorem KO(hv:Value.okWide Tryz.prog W r b0 41 v)(h:DataW.Trod enc Tryz.prog W 0 (fun _=>true) true 41 v d p):∃xs,Big.D1 W v xs:=by
 obtain⟨a,len,cap,rfl⟩:=okWide_slice Tryz.underlying41 hv;obtain⟨fuel,hf⟩:=h;obtain⟨xs,hxs⟩:=LB (by simpa [Value.cells] using hf);exact⟨xs,hxs⟩
end
end Go.Proofs.YtkoaogkknnelaaaGreatDoor
