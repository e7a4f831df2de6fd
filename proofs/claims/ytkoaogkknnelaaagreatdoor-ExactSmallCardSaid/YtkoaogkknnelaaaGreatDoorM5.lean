import Derived.Test.YtkoaogkknnelaaaGreatDoorM4
set_option linter.unusedVariables false
set_option linter.unusedSimpArgs false
set_option maxRecDepth 100000
namespace Go.Proofs.YtkoaogkknnelaaaGreatDoor
namespace Big
open Lib (hid)
open Go.RowKit
theorem Qt(w:World)(v:Value)(xs:List Nat)(h:Arr w v xs)(hn:xs.length<=1073741824):
  Calls Tryz.prog 222 #[v] w fun e w'=>∃v',e= .returned v'/\Own w.heap.size w' v' xs/\Ext w w':=by
 have HA:=hid h;obtain⟨az,A,c,rfl,hc,hm,aa⟩:=h.open;have HM:=hid hm;have HN:=hid hn;have HC:=hid aa;clear h hm hn aa;obtain⟨i0,hi,aE,hz1,ba⟩:=info_parts JC;rcases A with _|a
 ·have h0:xs=[]:=by
   rcases Nat.eq_zero_or_pos xs.length with h|h
   ·exact List.eq_nil_of_length_eq_zero h
   ·obtain⟨b,o,he,_⟩:=HC.out h;cases he
  subst h0;have hE:=fun W c=>Lib.run_eql_slice_nil (P:=Tryz.prog) W 22 183 none 0 c 0 0 Tryz.underlying22
  go_enter Tryz.func222,Tryz.ntmps222
  go_wp2
  go_ret;exact⟨_,rfl,Own.none_ _ _,Ext.refl _⟩
 ·have hE:=fun W n c=>Lib.run_eql_slice_nil (P:=Tryz.prog) W 22 183 (some a) n c 0 0 Tryz.underlying22
  go_enter Tryz.func222,Tryz.ntmps222;have nG:([]:List Nat).length+xs.length<=2147483648:=by have:=HN.out;simp;omega
  have i7:=hid nG;clear nG;go_wp2_with (at_builtin;go_must (refine AP rfl _ _ rfl rfl (Own.empty w.heap.size _ _) rfl (HA.out.ext ((Ext.refl _).alloc _)) i7.out (by simp) ?_;intro v' w' aG aQ hb));go_ret;exact⟨_,rfl,aG,((Ext.refl w).alloc _).more hb⟩
theorem Bq(w:World)(v:Value)(xs:List Nat)(h:Arr w v xs)(hn:xs.length<=1073741824):
  Calls Tryz.prog 188 #[v] w fun e w'=>∃v',e= .returned v'/\Own w.heap.size w' v' (Ac (val xs))/\Ext w w':=by
 have HS:=hid (CB w v xs h);have cp:=Cx xs;have HT:=hid (B8 h.ok);have HA:=hid h;have HN:=hid hn;obtain⟨az,A,c,rfl,hc,hm,aa⟩:=h.open;have HM:=hid hm;clear h hn aa hm;go_enter Tryz.func188,Tryz.ntmps188;go_wp2_with fail;refine HS.out.mono ?_
 rintro e w' ⟨rfl,rfl⟩;go_wp2_with fail;obtain⟨A',c',he,ha⟩:=HA.out.take (size xs) cp;injection he with he1 he2 he3
 subst he1 he3;rw[HT.out]at ha;have hc:=Qt w _ _ ha (Nat.le_trans (An az) HN.out);refine hc.mono ?_
 rintro e w' ⟨v',rfl,ho,hx⟩;go_wp2_with fail;go_ret;exact⟨_,rfl,ho,hx⟩
theorem Ug(w:World)(v:Value)(xs:List Nat)(i:Int)(h:Arr w v xs)(h0:0<=i)(h1:i<xs.length):
  Calls Tryz.prog 176 #[v,.int .i64 i] w fun e w'=>e= .returned (.int .u64 (xs.getD i.toNat 0:Nat))/\w=w':=by
 obtain⟨n,rfl⟩:=Int.eq_ofNat_of_zero_le h0;rw[Int.toNat_natCast];obtain⟨az,A,c,rfl,hc,hm,aa⟩:=h.open;obtain⟨b,o,rfl,hb,aa⟩:=aa (by omega);have hx:=aa n (by omega);clear aa h hm;have cK:=az.get n;obtain⟨x,bN⟩:∃x,xs.getD n 0=x:=⟨_,rfl⟩;rw[bN]at hx cK ⊢;clear bN;simp only[d32]at hx;have hd:decide ((xs.length:Int)<=n)=false:=by simp;omega
 have eN:decide (xs.length<=n)=false:=by simp;omega
 go_enter Tryz.func176,Tryz.ntmps176
 go_wp2
 go_ret;exact⟨rfl,rfl⟩
theorem S6(w:World)(v:Value)(xs:List Nat)(i:Int)(h:Arr w v xs)(h1:(xs.length:Int)<=i):
  Calls Tryz.prog 176 #[v,.int .i64 i] w fun e w'=>e= .returned (.int .u64 (xs.getD i.toNat 0:Nat))/\w=w':=by
 have hz:xs.getD i.toNat 0=0:=by rw[List.getD_eq_getElem?_getD,List.getElem?_eq_none (by omega)];rfl
 rw[hz];obtain⟨az,A,c,rfl,hc,hm,aa⟩:=h.open;clear aa h hm hz;have hd:decide ((xs.length:Int)<=i)=true:=by simp;omega
 have h0:¬i<0:=by omega
 go_enter Tryz.func176,Tryz.ntmps176
 go_wp2
 go_ret;exact⟨rfl,rfl⟩
theorem Do(w:World)(v:Value)(xs:List Nat)(i:Int)(h:Arr w v xs)(h0:0<=i):
  Calls Tryz.prog 176 #[v,.int .i64 i] w fun e w'=>e= .returned (.int .u64 (xs.getD i.toNat 0:Nat))/\w=w':=by
 rcases Int.lt_or_le i xs.length with h1|h1
 ·exact Ug w v xs i h h0 h1
 ·exact S6 w v xs i h h1
theorem B9(w:World)(v:Value)(xs:List Nat)(h:Arr w v xs)(hn:xs.length<=1073741824):
  Calls Tryz.prog 120 #[v] w fun e w'=>∃v',e= .returned v'/\Own w.heap.size w' v' (Ac (val xs))/\Ext w w':=by
 have HA:=hid h;have HN:=hid hn;obtain⟨az,A,c,rfl,hc,hm,aa⟩:=h.open;clear h hn;unfold maxLen at hm;go_enter Tryz.func120,Tryz.ntmps120
 go_wp2
 go_loop [3] (fun n=>∃k:Nat,k<=xs.length/\n= .int .i64 k/\∀i,k<=i->xs.getD i 0=0) (fun n=>(intOf n).toNat)
 case atStart=>exact⟨_,Nat.le_refl _,rfl,fun i hi=>by rw[List.getD_eq_getElem?_getD,List.getElem?_eq_none hi];rfl⟩
 case round=>
  obtain⟨k,hk,rfl,hz⟩:=hrel;have HZ:=hid hz;clear hz;have HC:=hid aa;clear aa;have dz:(0<k->xs.getD (k-1) 0≠0)->Arr w (.slice A k c) (Ac (val xs)):=fun ht=>by
   have hs:=IZ xs k hk HZ.out ht;obtain⟨A',c',he,ha⟩:=HA.out.take (size xs) (Cx xs);injection he with he1 he2 he3
   subst he1 he3;rw[B8 az,hs]at ha;exact ha
  have HF:=hid dz;clear dz;have vc:([]:List Nat).length+(Ac (val xs)).length<=2147483648:=by
   have:=An az;have:=HN.out;simp;omega
  have dN:=hid vc;clear vc;have tail:∀(_:0<k->xs.getD (k-1) 0≠0),True:=fun _=>trivial
  clear tail;by_cases h0:k=0
  ·subst h0;have HX:=hid (HF.out (by omega));go_wp2_with (at_builtin;go_must (refine AP rfl _ _ rfl rfl (Own.empty w.heap.size _ _) rfl (HX.out.ext ((Ext.refl _).alloc _)) dN.out (by simp) ?_;intro v' w' aG aQ hb));go_ret;exact⟨_,rfl,aG,((Ext.refl w).alloc _).more hb⟩
  ·obtain⟨b,o,rfl,hb,aa⟩:=HC.out (by omega);have hx:=aa (k-1) (by omega);clear aa;obtain⟨m,rfl⟩:∃m,k=m+1:=⟨k-1,by omega⟩;simp only[Nat.add_sub_cancel,d32]at hx;by_cases hx0:xs.getD m 0=0
   ·have fl:((xs.getD m 0:Int) == 0)=true:=by rw[hx0];rfl
    have HX:=hid hx0;clear hx0;obtain⟨y,hy⟩:∃y,xs.getD m 0=y:=⟨_,rfl⟩;rw[hy]at hx fl;clear hy
    go_wp2
    go_round
    case rel=>exact⟨m,by omega,by go_num,fun i hi=>by
     rcases Nat.lt_or_ge m i with h1|h1
     ·exact HZ.out i h1
     ·obtain rfl:i=m:=by omega
      exact HX.out⟩
    case measure=>simp[intOf]
   ·have fl:((xs.getD m 0:Int) == 0)=false:=by rw[beq_eq_false_iff_ne];omega
    have HX:=hid (HF.out (fun _=>hx0));clear hx0;obtain⟨y,hy⟩:∃y,xs.getD m 0=y:=⟨_,rfl⟩;rw[hy]at hx fl;clear hy;go_wp2_with (at_builtin;go_must (refine AP rfl _ _ rfl rfl (Own.empty w.heap.size _ _) rfl (HX.out.ext ((Ext.refl _).alloc _)) dN.out (by simp) ?_;intro v' w' aG aQ hb));go_ret;exact⟨_,rfl,aG,((Ext.refl w).alloc _).more hb⟩
theorem Dv(w:World)(v u:Value)(xs ys:List Nat)(h:Arr w v xs)(h':Arr w u ys)(hn:xs.length<=1073741824)(bu:ys.length<=1073741824):
  Calls Tryz.prog 134 #[v,u] w fun e w'=>e= .returned (.int .i64 (BS (val xs) (val ys)))/\w=w':=by
 have HA:=hid h;have HB:=hid h';obtain⟨az,A,c,rfl,hc,hm,aa⟩:=h.open;obtain⟨bM,A',c',rfl,fW,me,ao⟩:=h'.open;have Xv:∀k,xs.length<=k->ys.length<=k->val (xs.drop k)=val (ys.drop k):=fun k h1 h2=>by
  rw[List.drop_eq_nil_of_le h1,List.drop_eq_nil_of_le h2]
 have HD:=hid Xv;clear h h' aa ao hm me hc fW Xv;rcases Nat.lt_or_ge xs.length ys.length with aF|aF
 all_goals
  go_enter Tryz.func134,Tryz.ntmps134;go_wp2_with fail
  go_loop [5] (fun i=>∃k:Nat,k<=1073741824/\i= .int .i64 ((k:Int)-1)/\val (xs.drop k)=val (ys.drop k)) (fun i=>(intOf i+1).toNat)
  case atStart=>first|exact⟨_,bu,rfl,HD.out _ (by omega) (by omega)⟩|exact⟨_,hn,rfl,HD.out _ (by omega) (by omega)⟩
  case round=>
   obtain⟨k,hk,rfl,hv⟩:=hrel;have HV:=hid hv;clear hv;rcases Nat.eq_zero_or_pos k with h0|h0
   ·subst h0;have HE:=hid (Ls (show val xs=val ys from HV.out));go_wp2_with fail;go_ret;exact⟨congrArg (fun z=>Ending.returned (.int .i64 z)) HE.out.symm,rfl⟩
   ·obtain⟨m,rfl⟩:∃m,k=m+1:=⟨k-1,by omega⟩;have HX:=hid (Do w _ xs (m:Int) HA.out (by omega));have HY:=hid (Do w _ ys (m:Int) HB.out (by omega));rw[Int.toNat_natCast]at HX HY;have HL:=hid (GP az m HV.out);have HG:=hid (GP bM m HV.out.symm);have HE:=hid (fun he=>MG (xs:=xs) (ys:=ys) m HV.out he);obtain⟨x,bN⟩:∃x,xs.getD m 0=x:=⟨_,rfl⟩;obtain⟨y,dR⟩:∃y,ys.getD m 0=y:=⟨_,rfl⟩;rw[bN]at HX HL HG HE;rw[dR]at HY HL HG HE;clear bN dR;rcases Nat.lt_trichotomy x y with lW|rfl|lW
    ·have HC:=hid (EX (HL.out lW));go_wp2_with fail;refine HX.out.mono ?_;rintro e w' ⟨rfl,rfl⟩
     go_wp2_with fail;refine HY.out.mono ?_;rintro e w' ⟨rfl,rfl⟩
     go_wp2_with fail;go_ret;exact⟨congrArg (fun z=>Ending.returned (.int .i64 z)) HC.out.symm,rfl⟩
    ·have eJ:=hid (HE.out rfl);go_wp2_with fail;refine HX.out.mono ?_;rintro e w' ⟨rfl,rfl⟩
     go_wp2_with fail;refine HY.out.mono ?_;rintro e w' ⟨rfl,rfl⟩
     go_wp2_with fail;refine HX.out.mono ?_;rintro e w' ⟨rfl,rfl⟩
     go_wp2_with fail;refine HY.out.mono ?_;rintro e w' ⟨rfl,rfl⟩
     go_wp2_with fail
     go_round
     case rel=>exact⟨m,by omega,rfl,eJ.out⟩
     case measure=>simp[intOf]
    ·have HC:=hid (Lr (HG.out lW));go_wp2_with fail;refine HX.out.mono ?_;rintro e w' ⟨rfl,rfl⟩
     go_wp2_with fail;refine HY.out.mono ?_;rintro e w' ⟨rfl,rfl⟩
     go_wp2_with fail;refine HX.out.mono ?_;rintro e w' ⟨rfl,rfl⟩
     go_wp2_with fail;refine HY.out.mono ?_;rintro e w' ⟨rfl,rfl⟩
     go_wp2_with fail;go_ret;exact⟨congrArg (fun z=>Ending.returned (.int .i64 z)) HC.out.symm,rfl⟩
theorem BR{w:World}{g:Nat}{t:TypeId}{a b:Value}(h:Blk w g t #[a,b])(a' b':Value):
  (w.setCell ⟨g,0,none⟩ a').cell? ⟨g,0,none⟩=some a'/\((w.setCell ⟨g,0,none⟩ a').setCell ⟨g,1,none⟩ b').cell? ⟨g,1,none⟩=some b':=
 ⟨(h.set_ 0 a').cell 0,((h.set_ 0 a').set_ 1 b').cell 1⟩
def AI(B:Nat)(w:World)(v:Value)(z:Int):Prop:=∃m,v= .agg #[.bool (decide (z<0)),m]/\Own B w m (Ac z.natAbs)
def Ap(w:World)(v:Value)(z:Int):Prop:=∃m,v= .agg #[.bool (decide (z<0)),m]/\Arr w m (Ac z.natAbs)
section
variable {w w':World} {v:Value} {z:Int} {B B':Nat}
theorem AI.ext(h:AI B w v z)(hb:Ext w w'):AI B w' v z:=by
 obtain⟨m,h1,h2⟩:=h;exact⟨m,h1,h2.ext hb⟩
theorem AI.mono(h:AI B w v z)(hB:B'<=B):AI B' w v z:=by
 obtain⟨m,h1,h2⟩:=h;exact⟨m,h1,h2.mono hB⟩
theorem AI.far(h:AI B w v z){p:Addr}(hp:p.block<B)(u:Value):AI B (w.setCell p u) v z:=by
 obtain⟨m,h1,h2⟩:=h;exact⟨m,h1,h2.far hp u⟩
theorem AI.arr(h:AI B w v z):Ap w v z:=by
 obtain⟨m,h1,h2⟩:=h;exact⟨m,h1,h2.arr⟩
theorem Ap.ext(h:Ap w v z)(hb:Ext w w'):Ap w' v z:=by
 obtain⟨m,h1,h2⟩:=h;exact⟨m,h1,h2.ext hb⟩
end
def sgn(neg:Bool)(n:Nat):Int:=if neg then-(n:Int) else n
theorem B6(neg:Bool)(n:Nat):(sgn neg n).natAbs=n:=by unfold sgn;split<;>omega
theorem IG(neg:Bool)(n:Nat):decide (sgn neg n<0)=(neg && decide (0<n)):=by
 unfold sgn;cases neg<;>simp
theorem Ti(n:Nat):decide (0<(Ac n).length)=decide (0<n):=by
 rcases Nat.eq_zero_or_pos n with h|h
 ·subst h;rfl
 ·have:0<(Ac n).length:=by rw[Cu n (by omega)];simp
  simp[h,this]
theorem LU(n:Nat):decide (0<(Ac n).length)=decide (sgn true n<0):=by rw[Ti,IG];rfl
theorem Kg(n:Nat):false=decide (sgn false n<0):=by rw[IG];rfl
theorem AI.laid{w w1:World}{g:Nat}{t:TypeId}{a b m:Value}{bb neg:Bool}{n B:Nat}(_hb:Blk w1 g t #[a,b])(ho:Own B w1 m (Ac n))(hg:g<B)(hs:bb=decide (sgn neg n<0))(he:Ext w w1)(hw:w.heap.size<=g):
  AI w.heap.size ((w1.setCell ⟨g,0,none⟩ (.bool bb)).setCell ⟨g,1,none⟩ m) (.agg #[.bool bb,m]) (sgn neg n)/\Ext w ((w1.setCell ⟨g,0,none⟩ (.bool bb)).setCell ⟨g,1,none⟩ m):=by
 refine⟨⟨m,by rw[hs],?_⟩,(he.setCell hw _).setCell hw _⟩;rw[B6];exact((ho.far (p:=⟨g,0,none⟩) hg _).far (p:=⟨g,1,none⟩) hg _).mono (by omega)
theorem AI.stored{w w1:World}{g B:Nat}{t:TypeId}{a b:Value}{bb:Bool}{m:Value}{z:Int}(_hb:Blk w1 g t #[a,b])(hi:AI B w1 (.agg #[.bool bb,m]) z)(hg:g<B)(he:Ext w w1)(hw:w.heap.size<=g):
  AI w.heap.size ((w1.setCell ⟨g,0,none⟩ (.bool bb)).setCell ⟨g,1,none⟩ m) (.agg #[.bool bb,m]) z/\Ext w ((w1.setCell ⟨g,0,none⟩ (.bool bb)).setCell ⟨g,1,none⟩ m):=
 ⟨((hi.far (p:=⟨g,0,none⟩) hg _).far (p:=⟨g,1,none⟩) hg _).mono (by omega),(he.setCell hw _).setCell hw _⟩
theorem BL(w:World)(neg:Bool)(v:Value)(xs:List Nat)(h:Arr w v xs)(hn:xs.length<=1073741824):
  Calls Tryz.prog 64 #[.bool neg,v] w fun e w'=>∃v',e= .returned v'/\AI w.heap.size w' v' (sgn neg (val xs))/\Ext w w':=by
 have HT:=hid (fun W hx=>B9 W v xs (h.ext hx) hn);have fM:=hid (LU (val xs));have lc:=hid (Kg (val xs));clear h;cases neg
 ·go_enter Tryz.func64,Tryz.ntmps64;go_wp2_with fail;refine(HT.out _ ((Ext.refl w).alloc _)).mono ?_
  rintro e w' ⟨v',rfl,ho,hx⟩;have HO:=hid ho;obtain⟨A,c,hv,_⟩:=ho.2;rw[List.length_map]at hv;subst hv;clear ho;have bF:=(Blk.new w 24 #[.bool false,.slice none 0 0]).ext hx;have hc0:w'.cell? ⟨w.heap.size,0,none⟩=some (.bool false):=bF.cell 0;have hc1:w'.cell? ⟨w.heap.size,1,none⟩=some (.slice none 0 0):=bF.cell 1;have hf0:=bF.frozen 0;have eh:=bF.frozen 1;have hz:=bF.lt;have HX:=hid hx;have HB:=hid bF;clear hx bF;go_wp2_with fail;obtain⟨aj,ac⟩:=BR HB.out (.bool false) (.slice A (Ac (val xs)).length c);refine bodyPost_ret (v:= .agg #[.bool false,.slice A (Ac (val xs)).length c]) (by simp[results,Tryz.results64,go_sem,aj,ac]) rfl ?_
  exact⟨_,rfl,AI.laid HB.out HO.out (by simp) lc.out (((Ext.refl w).alloc _).trans HX.out) (Nat.le_refl _)⟩
 ·go_enter Tryz.func64,Tryz.ntmps64;go_wp2_with fail;refine(HT.out _ ((Ext.refl w).alloc _)).mono ?_
  rintro e w' ⟨v',rfl,ho,hx⟩;have HO:=hid ho;obtain⟨A,c,hv,_⟩:=ho.2;rw[List.length_map]at hv;subst hv;clear ho;have bF:=(Blk.new w 24 #[.bool false,.slice none 0 0]).ext hx;have hc0:w'.cell? ⟨w.heap.size,0,none⟩=some (.bool false):=bF.cell 0;have hc1:w'.cell? ⟨w.heap.size,1,none⟩=some (.slice none 0 0):=bF.cell 1;have hf0:=bF.frozen 0;have eh:=bF.frozen 1;have hz:=bF.lt;have HX:=hid hx;have HB:=hid bF;clear hx bF;go_wp2_with fail;obtain⟨aj,ac⟩:=BR HB.out (.bool (decide (0<(Ac (val xs)).length))) (.slice A (Ac (val xs)).length c);refine bodyPost_ret (v:= .agg #[.bool (decide (0<(Ac (val xs)).length)),.slice A (Ac (val xs)).length c]) (by simp[results,Tryz.results64,go_sem,aj,ac]) rfl ?_
  exact⟨_,rfl,AI.laid HB.out HO.out (by simp) fM.out (((Ext.refl w).alloc _).trans HX.out) (Nat.le_refl _)⟩
end Big
end Go.Proofs.YtkoaogkknnelaaaGreatDoor
