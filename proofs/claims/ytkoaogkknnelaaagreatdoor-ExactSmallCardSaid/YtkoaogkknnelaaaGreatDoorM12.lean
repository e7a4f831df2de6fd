import Derived.Test.YtkoaogkknnelaaaGreatDoorM11
import Derived.RegionTactic
import Derived.ChangeAlike
set_option linter.unusedVariables false
set_option linter.unusedSimpArgs false
namespace Go.Proofs.YtkoaogkknnelaaaGreatDoor
namespace Big
open Lib (hid)
open Go.RowKit
@[go_sem high] theorem Qu (l:List UInt8):Value.cells.match_1 (fun _=>Array Value) (str l) (fun cs=>cs) (fun v=> #[v])= #[str l]:=rfl
theorem C3(w:World)(ty:TypeId)(cs:List Value):∀(j:Nat) (u:Value),cs[j]? =some u->(w.alloc (.cells cs.toArray ty)).cell? ((⟨w.heap.size,0,none⟩:Addr).add j)=some u:=fun j u hj=>by
 have h1:=(Blk.new w ty cs.toArray).cell j;have h2:(⟨w.heap.size,0,none⟩:Addr).add j=⟨w.heap.size,j,none⟩:=by
  unfold Addr.add;split
  ·rename_i h;subst h;rfl
  ·simp
 rw[h2,h1,<-hj,List.getElem?_toArray]
theorem AU.kbs{B g:Nat}{w w':World}{v:Value}{l:List Nd}(h:AU B w v l)(hg:g<B)(hk:KB w.heap.size g w w'):AU B w' v l:=
 h.kept (fun k h1 h2=>hk.block k h2 (by omega))
theorem AU.ext{B:Nat}{w w':World}{v:Value}{l:List Nd}(h:AU B w v l)(hk:Ext w w'):AU B w' v l:=
 h.kept (fun k _h1 h2=>hk.block k h2)
theorem AU.shape3{B:Nat}{w:World}{v:Value}{l:List Nd}(h:AU B w v l):∃A c n,v= .slice A n c/\n=l.length:=by
 obtain⟨A,c,h1⟩:=h.shape;exact⟨A,c,_,h1,rfl⟩
theorem Pv(w:World)(v u:Value)(xs ys:List Nat)(h:Arr w v xs)(h':Arr w u ys)(hn:xs.length<=1073741824)(bu:ys.length<=1073741824):
  Calls Tryz.prog 72 #[v,u] w fun e w'=>e= .returned (.bool (decide (xs.length=ys.length) && decide (val xs=val ys)))/\w=w':=by
 have HC:=hid (Dv w v u xs ys h h' hn bu);obtain⟨az,A,c,rfl,hc,hm,aa⟩:=h.open;obtain⟨bM,A',c',rfl,fW,me,ao⟩:=h'.open;clear h h' aa ao hm me;by_cases hl:xs.length=ys.length
 ·have hb:((xs.length:Int) == (ys.length:Int))=true:=by rw[hl];simp
  have HL:=hid hl;clear hl;by_cases hv:val xs=val ys
  ·have fV:(BS (val xs) (val ys) == 0)=true:=by rw[Ls hv];rfl
   have HV:=hid hv;clear hv;generalize BS (val xs) (val ys)=cc at HC fV;go_enter Tryz.func72,Tryz.ntmps72;go_wp2_with fail;refine HC.out.mono ?_;rintro e w' ⟨rfl,rfl⟩
   go_wp2_with fail;go_ret;exact⟨by rw[decide_eq_true HL.out,decide_eq_true HV.out];rfl,rfl⟩
  ·have fV:(BS (val xs) (val ys) == 0)=false:=by
    rw[beq_eq_false_iff_ne];unfold BS;split<;>(try split)<;>omega
   have HV:=hid hv;clear hv;generalize BS (val xs) (val ys)=cc at HC fV;go_enter Tryz.func72,Tryz.ntmps72;go_wp2_with fail;refine HC.out.mono ?_;rintro e w' ⟨rfl,rfl⟩
   go_wp2_with fail;go_ret;exact⟨by rw[decide_eq_true HL.out,decide_eq_false HV.out];rfl,rfl⟩
 ·have hb:((xs.length:Int) == (ys.length:Int))=false:=by rw[beq_eq_false_iff_ne];omega
  have HL:=hid hl;clear hl HC;go_enter Tryz.func72,Tryz.ntmps72;go_wp2_with fail;go_ret;exact⟨by rw[decide_eq_false HL.out];rfl,rfl⟩
theorem Jq(w:World)(neg:Bool)(v:Value)(xs:List Nat)(n:Int)(h:Arr w v xs)(hn:xs.length<=1073741824)(cp:(xs.length:Int)<=n):
  Calls Tryz.prog 60 #[.agg #[.bool neg,v],.int .i64 n] w fun e w'=>∃v',e= .returned (.tuple #[v',.bool true])/\AI w.heap.size w' v' (sgn neg (val xs))/\Ext w w':=by
 have HA:=hid h;obtain⟨az,A,c,rfl,hc,hm,aa⟩:=h.open;clear h aa hm hc;go_enter Tryz.func60,Tryz.ntmps60;go_wp2_with fail;have hx0:=((Ext.refl w).alloc (.cells #[.bool neg,.slice A xs.length c] 24)).alloc (.cells #[.bool false,.slice none 0 0] 24);refine(BL _ neg _ xs (HA.out.ext hx0) hn).mono ?_
 rintro e w1 ⟨v1,rfl,hi,hx⟩;have HI:=hid hi;obtain⟨m,hv,ho⟩:=hi;obtain⟨A1,c1,fo,_⟩:=ho.2;rw[List.length_map]at fo;subst fo;subst hv;clear ho;generalize decide (sgn neg (val xs)<0)=bb at HI;generalize (Ac (sgn neg (val xs)).natAbs).length=ln at HI;have bF:=(Blk.new (w.alloc (.cells #[.bool neg,.slice A xs.length c] 24)) 24 #[.bool false,.slice none 0 0]).ext hx;simp only[World.size_alloc]at bF;have hc0:w1.cell? ⟨w.heap.size+1,0,none⟩=some (.bool false):=bF.cell 0;have hc1:w1.cell? ⟨w.heap.size+1,1,none⟩=some (.slice none 0 0):=bF.cell 1;have hf0:=bF.frozen 0;have eh:=bF.frozen 1;have hz:=bF.lt;have HX:=hid (hx0.trans hx);have HB:=hid bF;clear hx bF hx0;go_wp2_with fail;obtain⟨aj,ac⟩:=BR HB.out (.bool bb) (.slice A1 ln c1);refine bodyPost_ret (v:= .tuple #[.agg #[.bool bb,.slice A1 ln c1],.bool true]) (by simp[results,Tryz.results60,go_sem,aj,ac]) rfl ?_
 exact⟨_,rfl,AI.stored HB.out HI.out (by simp) HX.out (by omega)⟩
end Big
end Go.Proofs.YtkoaogkknnelaaaGreatDoor
