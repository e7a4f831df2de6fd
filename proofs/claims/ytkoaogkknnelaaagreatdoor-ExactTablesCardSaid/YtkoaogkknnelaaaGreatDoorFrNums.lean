import Derived.Test.YtkoaogkknnelaaaGreatDoorM41
set_option linter.unusedVariables false
set_option linter.unusedSimpArgs false
set_option maxRecDepth 100000
namespace Go.Proofs.YtkoaogkknnelaaaGreatDoor
open Go.ChangeShapes Go.WideShapes Go.ChangeAt Go.RowKit
theorem MZ:Tryz.prog.cellsOf 3=1:=by kernel_rfl
section
variable {H:Type} {enc:TypeId × Value->H} {W:World} {v:Value} {d:DataW H} {p:List MemPlace} {r:Reach} {b0:Nat}
theorem Lw{fuel:Nat}{y:DataW H × List MemPlace}(h:DataW.trod enc Tryz.prog W 0 (fun _=>true) true fuel 41 [v]=some y):∃xs,Big.EU W v xs:=by
 rcases open_ints Tryz.underlying41 Tryz.underlying3 MZ h with ⟨hv,_⟩|⟨a,len,cap,zs,hv,_,hl,hm,hz,_,hc,hw⟩
 ·injection hv with hv
  subst hv;exact⟨[],⟨(fun x hx=>by cases hx),Big.DX.none_ W⟩⟩
 ·injection hv with hv
  subst hv;simp only[if_true]at hz;refine⟨zs.take len,fun x hx=>bounds_i64 (hw x (List.mem_of_mem_take hx)),some a,cap,by simp;omega,by simp;omega,hm,fun hp=> ?_⟩;simp only[List.length_map,List.length_take]at hp;obtain⟨b,off,rfl,aa⟩:=ints_at hc (by omega);have h0:=aa 0 (by omega);refine⟨b,off,rfl,World.block_lt_of_cell? W _ h0,fun j u hj=> ?_⟩;rw[List.getElem?_map]at hj;have qi:j<len:=by
   rcases Nat.lt_or_ge j len with h|h
   ·exact h
   ·rw[List.getElem?_eq_none (by simp;omega)]at hj;cases hj
  have uD:j<zs.length:=by omega
  rw[List.getElem?_take_of_lt qi,List.getElem?_eq_getElem uD]at hj;injection hj with hj
  subst hj;rw[aa j (by omega)];have e1:zs.getD j 0=zs[j]:=by rw[List.getD_eq_getElem?_getD,List.getElem?_eq_getElem uD];rfl
  rw[e1];rfl
theorem Qc(hv:Value.okWide Tryz.prog W r b0 41 v)(h:DataW.Trod enc Tryz.prog W 0 (fun _=>true) true 41 v d p):∃xs,Big.EU W v xs:=by
 obtain⟨a,len,cap,rfl⟩:=okWide_slice Tryz.underlying41 hv;obtain⟨fuel,hf⟩:=h;obtain⟨xs,hxs⟩:=Lw (by simpa [Value.cells] using hf);exact⟨xs,hxs⟩
end
end Go.Proofs.YtkoaogkknnelaaaGreatDoor
