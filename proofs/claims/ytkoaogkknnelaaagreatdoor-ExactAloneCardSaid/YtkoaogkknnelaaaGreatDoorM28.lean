import Derived.Test.YtkoaogkknnelaaaGreatDoorM27
import Derived.Maps.Own
import Derived.DeepKeys4
import Derived.ChangeMaps
import Derived.Maps.OwnSet
import Derived.Below
set_option linter.unusedVariables false
set_option linter.unusedSimpArgs false
set_option maxRecDepth 100000
namespace Go.Proofs.YtkoaogkknnelaaaGreatDoor
namespace Big
open Lib (hid)
open Go.RowKit
theorem Oj{z:Int}{d M L:Nat}(hz:(Ac z.natAbs).length<=M)(hd:(Ac d).length<=L):(Ac (EG z d).natAbs).length<=M/\(Ac (Ec z d)).length<=L:=by
 rw[Ff];exact⟨Nat.le_trans (Ay (Nat.div_le_self _ _)) hz,Nat.le_trans (Ay (Nat.div_le_self _ _)) hd⟩
theorem MP{p r:Int}{q s N:Nat}(a:(Ac p.natAbs).length<=N)(b:(Ac q).length<=N)(c:(Ac r.natAbs).length<=N)(d:(Ac s).length<=N):(Ac (My p q r s).natAbs).length<=4*N+1/\(Ac (Mx p q r s)).length<=4*N+1:=by
 have h1:(Ac (p*(s:Int)).natAbs).length<=2*N:=by rw[Int.natAbs_mul,Int.natAbs_natCast];have:=AJ a d;omega
 have h2:(Ac (r*(q:Int)).natAbs).length<=2*N:=by rw[Int.natAbs_mul,Int.natAbs_natCast];have:=AJ c b;omega
 have h3:(Ac (Lb p q r s).natAbs).length<=4*N+1:=by unfold Lb;have:=Gj h1 h2;omega
 have h4:(Ac (q*s)).length<=4*N+1:=by have:=AJ b d;omega
 exact Oj h3 h4
theorem QC{p r:Int}{q s N:Nat}(a:(Ac p.natAbs).length<=N)(b:(Ac q).length<=N)(c:(Ac r.natAbs).length<=N)(d:(Ac s).length<=N):(Ac (PI p q r s).natAbs).length<=2*N/\(Ac (PH p q r s)).length<=2*N:=by
 have h1:(Ac (p*r).natAbs).length<=2*N:=by rw[Int.natAbs_mul];have:=AJ a c;omega
 have h4:(Ac (q*s)).length<=2*N:=by have:=AJ b d;omega
 exact Oj h1 h4
theorem Ks{r:Int}{s N:Nat}(c:(Ac r.natAbs).length<=N)(d:(Ac s).length<=N):(Ac (Fh r s).natAbs).length<=N/\(Ac r.natAbs).length<=N:=by
 unfold Fh;rw[CR];exact⟨d,c⟩
theorem QB{r:Int}{N:Nat}(c:(Ac r.natAbs).length<=N):(Ac (-r).natAbs).length<=N:=by rw[Int.natAbs_neg];exact c
theorem Hk{p:Int}{q N:Nat}(hp:(Ac p.natAbs).length<=N)(hq:(Ac q).length<=N)(hN:N<=100000000)(W:World)(v u:Value)(a:Aw W v p q)(b:Aw W u p q):
  Calls Tryz.prog 18 #[v,u] W fun e w'=>e= .returned (.bool true)/\Ext W w':=by
 have:=M6 W v p q a (by omega) (by omega) u p q b (by omega) (by omega);rw[decide_eq_true (⟨rfl,rfl⟩:p=p/\q=q)]at this;exact this
theorem Ps(w:World)(v0:Value)(p:Int)(q:Nat)(h0:Aw w v0 p q)(n0:(Ac p.natAbs).length<=100000)(m0:(Ac q).length<=100000):
  Calls Tryz.prog 73 #[v0] w fun e w'=>e= .returned (.int .i64 ((max (Be p.natAbs) (Be q):Nat):Int))/\Ext w w':=by
 have H0:=hid h0;have HA:=hid (fun W m (a:Arr W m (Ac p.natAbs))=>((DR W m (Ac p.natAbs) a (by omega)).mono fun _ _ h=>⟨h.1,h.2 ▸ Ext.refl _⟩:Calls Tryz.prog 135 #[m] W fun e w'=>e= .returned (.int .i64 (Be (val (Ac p.natAbs)):Nat))/\Ext W w'));have HB:=hid (fun W m (a:Arr W m (Ac q))=>((DR W m (Ac q) a (by omega)).mono fun _ _ h=>⟨h.1,h.2 ▸ Ext.refl _⟩:Calls Tryz.prog 135 #[m] W fun e w'=>e= .returned (.int .i64 (Be (val (Ac q)):Nat))/\Ext W w'));rw[Ad]at HA HB;obtain⟨b0,l0,A0,c0,k0,D0,e0,rfl⟩:=h0.shape;clear h0 n0 m0;generalize Be p.natAbs=x at *;generalize Be q=y at *;obtain⟨z,hz⟩:∃z,max x y=z:=⟨_,rfl⟩;have ek:max (x:Int) (y:Int)=(z:Int):=by omega
 have XR:(if (x:Int)<(y:Int) then (y:Int) else (x:Int))=(z:Int):=by split<;>omega
 have XQ:(if (y:Int)<=(x:Int) then (x:Int) else (y:Int))=(z:Int):=by split<;>omega
 rw[hz];clear hz;go_enter Tryz.func73,Tryz.ntmps73;go_wp2_with fail;have hb0:=(Blk.new w 26 #[.bool b0,.slice A0 l0 c0,.slice D0 k0 e0]);have aC:=((Ext.refl w).alloc (.cells #[.bool b0,.slice A0 l0 c0,.slice D0 k0 e0] 26));have az:w.heap.size+1=(w.alloc (.cells #[.bool b0,.slice A0 l0 c0,.slice D0 k0 e0] 26)).heap.size:=by simp
 generalize w.alloc (.cells #[.bool b0,.slice A0 l0 c0,.slice D0 k0 e0] 26)=wo at *;obtain⟨cr,cq,db,_,_,_,_⟩:=hb0.three;clear hb0
 go_region_held3 (fun w'=>Ext w w'/\w'.cell? ⟨w.heap.size,0,none⟩=some (Value.bool b0)/\w'.cell? ⟨w.heap.size,1,none⟩=some (Value.slice A0 l0 c0)/\w'.cell? ⟨w.heap.size,2,none⟩=some (Value.slice D0 k0 e0))
  (first|(exact⟨aC.drew,cr,cq,db⟩)|(exact Jb (by assumption) (by assumption))|(exact Jb (by assumption) (Ext.refl _)))
  (first
   |(go_at_call 135;have dF:=aE;refine(HB.out _ _ (H0.out.den.ext (And.left (by assumption)))).mono ?_;rintro e w2 ⟨rfl,aj⟩;have hz1:=aj.size)
   |(go_at_call 135;refine(HA.out _ _ (H0.out.num.ext (And.left (by assumption)))).mono ?_;rintro e w1 ⟨rfl,hx0⟩;have aE:=hx0.size))
 all_goals go_wp2_with fail
 rename_i hS;obtain⟨hE,_,_,_⟩:=hS;simp only[World.size_drew]at aE;go_ret;exact⟨rfl,hE⟩
structure FL (x:Nd):Prop where
 kind:(Lit.int .i64 x.kind).wf=true
 a:(Lit.int .i64 x.a).wf=true
 b:(Lit.int .i64 x.b).wf=true
 n:(Lit.int .i64 x.n).wf=true
 text:x.text.length<=maxLen
theorem PS:laidOutB Tryz.prog=true:=by kernel_rfl
theorem DO:Go.Maps.Keyed Tryz.prog 95:=
 Go.Maps.Keyed.of_law (deep_law_laid PS (m:=3) (by omega) (of_decide_eq_true (by kernel_rfl)) (by kernel_rfl) (by rw[Tryz.underlying95]))
theorem K0:Tryz.prog.keyType 95=true:=by kernel_rfl
theorem Jl:Tryz.prog.cellsOf 95=5:=by kernel_rfl
theorem Qk:Tryz.prog.cellsOf 3=1:=by kernel_rfl
theorem K7:Tryz.prog.cellsOf 9=1:=by kernel_rfl
theorem Ja(x:Nd)(h:FL x):∃l,keyOf Tryz.prog 95 (ndV x)=some l:=by
 have hs:(⟨x.text.toArray⟩:ByteArray).size<=maxLen:=by
  have:=h.text;rw[BZ];exact this
 obtain⟨m,hm⟩:∃m,Tryz.prog.types.size=m+1:=⟨Tryz.prog.types.size-1,by
  have:0<Tryz.prog.types.size:=of_decide_eq_true (by kernel_rfl);omega⟩
 obtain⟨q0,q1,q2,q3,_⟩:=h;refine Option.isSome_iff_exists.1 ?_
 unfold keyOf;rw[Tryz.underlying95];simp only[K0,Bool.true_and];rw[if_pos (by simp[ndV,Value.formed,Tryz.underlying95,Jl]),hm];unfold Program.keyLits;rw[Tryz.underlying95];simp[ndV,Value.cells,Jl,Qk,K7,Program.keyLits,Tryz.underlying3,Tryz.underlying9,str,hs,q0,q1,q2,q3]
open Go.RowKit Go.ChangeMaps
def nmE(ns:List Nd):List (Value × Value):=(List.range ns.length).map fun i=>(ndV (ns.getD i ⟨0,0,0,0,[]⟩),.int .i64 (i:Int))
theorem Cs(ns:List Nd):(nmE ns).length=ns.length:=by simp[nmE]
theorem Gh(ns:List Nd)(i:Nat)(h:i<ns.length):(nmE ns)[i]? =some (ndV ns[i],.int .i64 (i:Int)):=by
 unfold nmE;rw[List.getElem?_map,List.getElem?_range h,Option.map_some,List.getD_eq_getElem?_getD,List.getElem?_eq_getElem h,Option.getD_some]
theorem Re(ns:List Nd)(x:Nd):nmE (ns++[x])=nmE ns++[(ndV x,.int .i64 (ns.length:Int))]:=by
 apply List.ext_getElem?;intro i;rcases Nat.lt_trichotomy i ns.length with h|h|h
 ·rw[Gh _ _ (by simp;omega),List.getElem?_append_left (by rw[Cs];exact h),Gh _ _ h,List.getElem_append_left h]
 ·subst h;rw[Gh _ _ (by simp),List.getElem?_append_right (by rw[Cs];exact Nat.le_refl _),Cs];simp
 ·rw[List.getElem?_eq_none (by rw[Cs];simp;omega),List.getElem?_eq_none (by rw[List.length_append,Cs];simp;omega)]
theorem Oi{x y:Nd}(h:ndV x=ndV y):x=y:=by
 obtain⟨a0,a1,a2,a3,a4⟩:=x;obtain⟨b0,b1,b2,b3,b4⟩:=y;unfold ndV at h;simp only[Value.agg.injEq,Array.mk.injEq,List.cons.injEq,Value.int.injEq,true_and,and_true]at h;obtain⟨rfl,rfl,rfl,rfl,h5⟩:=h;unfold str at h5;injection h5 with h5
 injection h5 with h5
 have h6:=congrArg Array.toList h5;simp only[List.toList_toArray]at h6;rw[h6]
def DC(w:World)(b:Nat)(ns:List Nd):Prop:=
 ∃es clock,w.heap[b]? =some (.map es clock)/\es.toList.map (fun e=>(e.key,e.val))=nmE ns
theorem DC.made(w:World):DC (w.alloc (.map #[] 0)) w.heap.size []:=⟨#[],0,(MapKept.heap_alloc w _).1,rfl⟩
theorem DC.lt{w:World}{b:Nat}{ns:List Nd}(h:DC w b ns):b<w.heap.size:=by
 obtain⟨es,clock,hb,_⟩:=h;exact(Array.getElem?_eq_some_iff.1 hb).1
theorem DC.kept{w w':World}{b:Nat}{ns:List Nd}(h:DC w b ns)(hk:w'.heap[b]? =w.heap[b]?):DC w' b ns:=by
 obtain⟨es,clock,hb,h2⟩:=h;exact⟨es,clock,hk.trans hb,h2⟩
theorem DC.keys{es:Array MapEntry}{ns:List Nd}(h:es.toList.map (fun e=>(e.key,e.val))=nmE ns)(hk:∀x∈ns,FL x):∀e∈es.toList,∃l,keyOf Tryz.prog 95 e.key=some l:=by
 intro e he;obtain⟨i,hi,rfl⟩:=List.getElem_of_mem he;have hl:es.toList.length=ns.length:=by rw[<-Cs ns,<-h,List.length_map]
 have h2:(es.toList.map (fun e=>(e.key,e.val)))[i]? =some (ndV (ns[i]'(by omega)),.int .i64 (i:Int)):=by rw[h,Gh]
 rw[List.getElem?_map,List.getElem?_eq_getElem hi,Option.map_some]at h2;injection h2 with h2
 injection h2 with h2 _
 rw[h2];exact Ja _ (hk _ (List.getElem_mem _))
theorem DC.entry{es:Array MapEntry}{ns:List Nd}(h:es.toList.map (fun e=>(e.key,e.val))=nmE ns){j:Nat}{e:MapEntry}(he:es.toList[j]? =some e):∃hj:j<ns.length,e.key=ndV ns[j]/\e.val= .int .i64 (j:Int):=by
 have hl:es.toList.length=ns.length:=by rw[<-Cs ns,<-h,List.length_map]
 have hj:j<ns.length:=by rw[<-hl];exact(List.getElem?_eq_some_iff.1 he).1
 have h2:(es.toList.map (fun e=>(e.key,e.val)))[j]? =some (ndV ns[j],.int .i64 (j:Int)):=by rw[h,Gh _ _ hj]
 rw[List.getElem?_map,he,Option.map_some]at h2;injection h2 with h2
 injection h2 with h2 h3
 exact⟨hj,h2,h3⟩
def FS(x:Nd)(ns:List Nd):Int:=if x∈ns then (Cl x ns:Int) else 0
theorem DC.look{w:World}{b:Nat}{ns:List Nd}(h:DC w b ns)(hk:∀x∈ns,FL x)(hn:ns.Nodup)(x:Nd)(hx:FL x){t:TypeId}(ht:Tryz.prog.underlying t=some (.map 95 3)):
  (Instr.lookup t (.map (some b)) (ndV x) true).run Tryz.prog w= .ok (.tuple #[.int .i64 (FS x ns),.bool (decide (x∈ns))]) w:=by
 obtain⟨es,clock,hb,he⟩:=h;obtain⟨l,hl⟩:=Ja x hx;have hz:(zeroValue 3).run Tryz.prog w= .ok (.int .i64 0) w:=by kernel_rfl
 have aB:es.toList.length=ns.length:=by rw[<-Cs ns,<-he,List.length_map]
 rcases DO.find w hl es.toList (DC.keys he hk) with ⟨h1,h2⟩|⟨j,e0,h1,h2,h3⟩
 ·have kX:x∉ns:=fun hm=>by
   obtain⟨i,hi,rfl⟩:=List.getElem_of_mem hm;have ba:i<es.toList.length:=by omega
   obtain⟨_,q,_⟩:=DC.entry he (List.getElem?_eq_getElem ba);exact h2 _ (List.getElem_mem ba) q
  rw[FS,if_neg kX,decide_eq_false kX];simp[Instr.lookup,run_underlying ht,MapKept.run_getObj_map hb,DO.check w _ hl,h1,hz,Result.andThen]
 ·obtain⟨hj,q1,q2⟩:=DC.entry he h2;have b7:x=ns[j]:=Oi (h3.symm.trans q1);have hm:x∈ns:=by rw[b7];exact List.getElem_mem hj
  have hp:Cl x ns=j:=by rw[b7];exact J2 hn hj
  rw[FS,if_pos hm,decide_eq_true hm,hp,<-q2];simp[Instr.lookup,run_underlying ht,MapKept.run_getObj_map hb,DO.check w _ hl,h1,Result.andThen]
theorem DC.store{w:World}{b:Nat}{ns:List Nd}(h:DC w b ns)(hk:∀x∈ns,FL x)(x:Nd)(hx:FL x)(kX:x∉ns){t:TypeId}(ht:Tryz.prog.underlying t=some (.map 95 3)):
  ∃w',(Instr.mapUpdate t (.map (some b)) (ndV x) (.int .i64 (ns.length:Int))).run Tryz.prog w= .ok () w'/\DC w' b (ns++[x])/\w.grownBy w' (some b):=by
 obtain⟨es,clock,hb,he⟩:=h;obtain⟨l,hl⟩:=Ja x hx;rcases DO.find w hl es.toList (DC.keys he hk) with ⟨h1,h2⟩|⟨j,e0,h1,h2,h3⟩
 ·refine⟨setBlock w b (.map (es.push ⟨ndV x,.int .i64 (ns.length:Int),clock⟩) (clock+1)),?_,⟨_,_,heap_setBlock_same hb _,?_⟩,⟨rfl,rfl,rfl,by simp[setBlock],fun i _ hi=>heap_setBlock_other hb _ (fun e=>hi (by rw[e]))⟩⟩
  ·simp[Instr.mapUpdate,run_underlying ht,MapKept.run_getObj_map hb,DO.check w false hl,h1,MapKept.run_setObj_map _ hb,Result.andThen,setBlock]
  ·rw[Array.toList_push,List.map_append,he,Re];rfl
 ·obtain⟨hj,q1,_⟩:=DC.entry he h2;exact absurd (by rw[Oi (h3.symm.trans q1)];exact List.getElem_mem hj) kX
end Big
end Go.Proofs.YtkoaogkknnelaaaGreatDoor
