import Derived.Test.YtkoaogkknnelaaaGreatDoorM4
set_option linter.unusedVariables false
set_option linter.unusedSimpArgs false
set_option maxRecDepth 100000
namespace Go.Proofs.YtkoaogkknnelaaaGreatDoor
namespace Big
open Lib (hid)
open Go.RowKit
theorem Qi(w:World)(v:Value)(xs:List Nat)(h:Arr w v xs)(hn:xs.length<=1073741824):
  Calls Tryz.prog 222 #[v] w fun e w'=>∃v',e= .returned v'/\Own w.heap.size w' v' xs/\Ext w w':=by
 have HA:=hid h;obtain⟨ax,A,c,rfl,hc,hm,aa⟩:=h.open;have HM:=hid hm;have HN:=hid hn;have HC:=hid aa;clear h hm hn aa;obtain⟨i0,hi,aE,hz1,bx⟩:=info_parts Jc;rcases A with _|a
 ·have h0:xs=[]:=by
   rcases Nat.eq_zero_or_pos xs.length with h|h
   ·exact List.eq_nil_of_length_eq_zero h
   ·obtain⟨b,o,he,_⟩:=HC.out h;cases he
  subst h0;have hE:=fun W c=>Lib.run_eql_slice_nil (P:=Tryz.prog) W 22 183 none 0 c 0 0 Tryz.underlying22
  go_enter Tryz.func222,Tryz.ntmps222
  go_wp2
  go_ret;exact⟨_,rfl,Own.none_ _ _,Ext.refl _⟩
 ·have hE:=fun W n c=>Lib.run_eql_slice_nil (P:=Tryz.prog) W 22 183 (some a) n c 0 0 Tryz.underlying22
  go_enter Tryz.func222,Tryz.ntmps222;have oj:([]:List Nat).length+xs.length<=2147483648:=by have:=HN.out;simp;omega
  have iu:=hid oj;clear oj;go_wp2_with (at_builtin;go_must (refine AO rfl _ _ rfl rfl (Own.empty w.heap.size _ _) rfl (HA.out.ext ((Ext.refl _).alloc _)) iu.out (by simp) ?_;intro v' w' ai au hb));go_ret;exact⟨_,rfl,ai,((Ext.refl w).alloc _).more hb⟩
theorem Bh(w:World)(v:Value)(xs:List Nat)(h:Arr w v xs)(hn:xs.length<=1073741824):
  Calls Tryz.prog 188 #[v] w fun e w'=>∃v',e= .returned v'/\Own w.heap.size w' v' (Ac (val xs))/\Ext w w':=by
 have HS:=hid (Co w v xs h);have cx:=Cm xs;have HT:=hid (BY h.ok);have HA:=hid h;have HN:=hid hn;obtain⟨ax,A,c,rfl,hc,hm,aa⟩:=h.open;have HM:=hid hm;clear h hn aa hm;go_enter Tryz.func188,Tryz.ntmps188;go_wp2_with fail;refine HS.out.mono ?_
 rintro e w' ⟨rfl,rfl⟩;go_wp2_with fail;obtain⟨A',c',he,ha⟩:=HA.out.take (size xs) cx;injection he with he1 he2 he3
 subst he1 he3;rw[HT.out]at ha;have hc:=Qi w _ _ ha (Nat.le_trans (Az ax) HN.out);refine hc.mono ?_
 rintro e w' ⟨v',rfl,ho,hx⟩;go_wp2_with fail;go_ret;exact⟨_,rfl,ho,hx⟩
theorem TF(w:World)(v:Value)(xs:List Nat)(i:Int)(h:Arr w v xs)(h0:0<=i)(h1:i<xs.length):
  Calls Tryz.prog 176 #[v,.int .i64 i] w fun e w'=>e= .returned (.int .u64 (xs.getD i.toNat 0:Nat))/\w=w':=by
 obtain⟨n,rfl⟩:=Int.eq_ofNat_of_zero_le h0;rw[Int.toNat_natCast];obtain⟨ax,A,c,rfl,hc,hm,aa⟩:=h.open;obtain⟨b,o,rfl,hb,aa⟩:=aa (by omega);have hx:=aa n (by omega);clear aa h hm;have cK:=ax.get n;obtain⟨x,b7⟩:∃x,xs.getD n 0=x:=⟨_,rfl⟩;rw[b7]at hx cK ⊢;clear b7;simp only[d32]at hx;have hd:decide ((xs.length:Int)<=n)=false:=by simp;omega
 have ed:decide (xs.length<=n)=false:=by simp;omega
 go_enter Tryz.func176,Tryz.ntmps176
 go_wp2
 go_ret;exact⟨rfl,rfl⟩
theorem SB(w:World)(v:Value)(xs:List Nat)(i:Int)(h:Arr w v xs)(h1:(xs.length:Int)<=i):
  Calls Tryz.prog 176 #[v,.int .i64 i] w fun e w'=>e= .returned (.int .u64 (xs.getD i.toNat 0:Nat))/\w=w':=by
 have hz:xs.getD i.toNat 0=0:=by rw[List.getD_eq_getElem?_getD,List.getElem?_eq_none (by omega)];rfl
 rw[hz];obtain⟨ax,A,c,rfl,hc,hm,aa⟩:=h.open;clear aa h hm hz;have hd:decide ((xs.length:Int)<=i)=true:=by simp;omega
 have h0:¬i<0:=by omega
 go_enter Tryz.func176,Tryz.ntmps176
 go_wp2
 go_ret;exact⟨rfl,rfl⟩
theorem DZ(w:World)(v:Value)(xs:List Nat)(i:Int)(h:Arr w v xs)(h0:0<=i):
  Calls Tryz.prog 176 #[v,.int .i64 i] w fun e w'=>e= .returned (.int .u64 (xs.getD i.toNat 0:Nat))/\w=w':=by
 rcases Int.lt_or_le i xs.length with h1|h1
 ·exact TF w v xs i h h0 h1
 ·exact SB w v xs i h h1
theorem Cw(w:World)(v:Value)(xs:List Nat)(h:Arr w v xs)(hn:xs.length<=1073741824):
  Calls Tryz.prog 120 #[v] w fun e w'=>∃v',e= .returned v'/\Own w.heap.size w' v' (Ac (val xs))/\Ext w w':=by
 have HA:=hid h;have HN:=hid hn;obtain⟨ax,A,c,rfl,hc,hm,aa⟩:=h.open;clear h hn;unfold maxLen at hm;go_enter Tryz.func120,Tryz.ntmps120
 go_wp2
 go_loop [3] (fun n=>∃k:Nat,k<=xs.length/\n= .int .i64 k/\∀i,k<=i->xs.getD i 0=0) (fun n=>(intOf n).toNat)
 case atStart=>exact⟨_,Nat.le_refl _,rfl,fun i hi=>by rw[List.getD_eq_getElem?_getD,List.getElem?_eq_none hi];rfl⟩
 case round=>
  obtain⟨k,hk,rfl,hz⟩:=hrel;have HZ:=hid hz;clear hz;have HC:=hid aa;clear aa;have dj:(0<k->xs.getD (k-1) 0≠0)->Arr w (.slice A k c) (Ac (val xs)):=fun ht=>by
   have hs:=IA xs k hk HZ.out ht;obtain⟨A',c',he,ha⟩:=HA.out.take (size xs) (Cm xs);injection he with he1 he2 he3
   subst he1 he3;rw[BY ax,hs]at ha;exact ha
  have HF:=hid dj;clear dj;have tQ:([]:List Nat).length+(Ac (val xs)).length<=2147483648:=by
   have:=Az ax;have:=HN.out;simp;omega
  have d9:=hid tQ;clear tQ;have tail:∀(_:0<k->xs.getD (k-1) 0≠0),True:=fun _=>trivial
  clear tail;by_cases h0:k=0
  ·subst h0;have HX:=hid (HF.out (by omega));go_wp2_with (at_builtin;go_must (refine AO rfl _ _ rfl rfl (Own.empty w.heap.size _ _) rfl (HX.out.ext ((Ext.refl _).alloc _)) d9.out (by simp) ?_;intro v' w' ai au hb));go_ret;exact⟨_,rfl,ai,((Ext.refl w).alloc _).more hb⟩
  ·obtain⟨b,o,rfl,hb,aa⟩:=HC.out (by omega);have hx:=aa (k-1) (by omega);clear aa;obtain⟨m,rfl⟩:∃m,k=m+1:=⟨k-1,by omega⟩;simp only[Nat.add_sub_cancel,d32]at hx;by_cases hx0:xs.getD m 0=0
   ·have fj:((xs.getD m 0:Int) == 0)=true:=by rw[hx0];rfl
    have HX:=hid hx0;clear hx0;obtain⟨y,hy⟩:∃y,xs.getD m 0=y:=⟨_,rfl⟩;rw[hy]at hx fj;clear hy
    go_wp2
    go_round
    case rel=>exact⟨m,by omega,by go_num,fun i hi=>by
     rcases Nat.lt_or_ge m i with h1|h1
     ·exact HZ.out i h1
     ·obtain rfl:i=m:=by omega
      exact HX.out⟩
    case measure=>simp[intOf]
   ·have fj:((xs.getD m 0:Int) == 0)=false:=by rw[beq_eq_false_iff_ne];omega
    have HX:=hid (HF.out (fun _=>hx0));clear hx0;obtain⟨y,hy⟩:∃y,xs.getD m 0=y:=⟨_,rfl⟩;rw[hy]at hx fj;clear hy;go_wp2_with (at_builtin;go_must (refine AO rfl _ _ rfl rfl (Own.empty w.heap.size _ _) rfl (HX.out.ext ((Ext.refl _).alloc _)) d9.out (by simp) ?_;intro v' w' ai au hb));go_ret;exact⟨_,rfl,ai,((Ext.refl w).alloc _).more hb⟩
theorem DJ(w:World)(v u:Value)(xs ys:List Nat)(h:Arr w v xs)(h':Arr w u ys)(hn:xs.length<=1073741824)(bh:ys.length<=1073741824):
  Calls Tryz.prog 134 #[v,u] w fun e w'=>e= .returned (.int .i64 (BQ (val xs) (val ys)))/\w=w':=by
 have HA:=hid h;have HB:=hid h';obtain⟨ax,A,c,rfl,hc,hm,aa⟩:=h.open;obtain⟨bE,A',c',rfl,jc,kY,an⟩:=h'.open;have Vk:∀k,xs.length<=k->ys.length<=k->val (xs.drop k)=val (ys.drop k):=fun k h1 h2=>by
  rw[List.drop_eq_nil_of_le h1,List.drop_eq_nil_of_le h2]
 have HD:=hid Vk;clear h h' aa an hm kY hc jc Vk;rcases Nat.lt_or_ge xs.length ys.length with aB|aB
 all_goals
  go_enter Tryz.func134,Tryz.ntmps134;go_wp2_with fail
  go_loop [5] (fun i=>∃k:Nat,k<=1073741824/\i= .int .i64 ((k:Int)-1)/\val (xs.drop k)=val (ys.drop k)) (fun i=>(intOf i+1).toNat)
  case atStart=>first|exact⟨_,bh,rfl,HD.out _ (by omega) (by omega)⟩|exact⟨_,hn,rfl,HD.out _ (by omega) (by omega)⟩
  case round=>
   obtain⟨k,hk,rfl,hv⟩:=hrel;have HV:=hid hv;clear hv;rcases Nat.eq_zero_or_pos k with h0|h0
   ·subst h0;have HE:=hid (K4 (show val xs=val ys from HV.out));go_wp2_with fail;go_ret;exact⟨congrArg (fun z=>Ending.returned (.int .i64 z)) HE.out.symm,rfl⟩
   ·obtain⟨m,rfl⟩:∃m,k=m+1:=⟨k-1,by omega⟩;have HX:=hid (DZ w _ xs (m:Int) HA.out (by omega));have HY:=hid (DZ w _ ys (m:Int) HB.out (by omega));rw[Int.toNat_natCast]at HX HY;have HL:=hid (Gu ax m HV.out);have HG:=hid (Gu bE m HV.out.symm);have HE:=hid (fun he=>Mo (xs:=xs) (ys:=ys) m HV.out he);obtain⟨x,b7⟩:∃x,xs.getD m 0=x:=⟨_,rfl⟩;obtain⟨y,dC⟩:∃y,ys.getD m 0=y:=⟨_,rfl⟩;rw[b7]at HX HL HG HE;rw[dC]at HY HL HG HE;clear b7 dC;rcases Nat.lt_trichotomy x y with kT|rfl|kT
    ·have HC:=hid (EO (HL.out kT));go_wp2_with fail;refine HX.out.mono ?_;rintro e w' ⟨rfl,rfl⟩
     go_wp2_with fail;refine HY.out.mono ?_;rintro e w' ⟨rfl,rfl⟩
     go_wp2_with fail;go_ret;exact⟨congrArg (fun z=>Ending.returned (.int .i64 z)) HC.out.symm,rfl⟩
    ·have eV:=hid (HE.out rfl);go_wp2_with fail;refine HX.out.mono ?_;rintro e w' ⟨rfl,rfl⟩
     go_wp2_with fail;refine HY.out.mono ?_;rintro e w' ⟨rfl,rfl⟩
     go_wp2_with fail;refine HX.out.mono ?_;rintro e w' ⟨rfl,rfl⟩
     go_wp2_with fail;refine HY.out.mono ?_;rintro e w' ⟨rfl,rfl⟩
     go_wp2_with fail
     go_round
     case rel=>exact⟨m,by omega,rfl,eV.out⟩
     case measure=>simp[intOf]
    ·have HC:=hid (K3 (HG.out kT));go_wp2_with fail;refine HX.out.mono ?_;rintro e w' ⟨rfl,rfl⟩
     go_wp2_with fail;refine HY.out.mono ?_;rintro e w' ⟨rfl,rfl⟩
     go_wp2_with fail;refine HX.out.mono ?_;rintro e w' ⟨rfl,rfl⟩
     go_wp2_with fail;refine HY.out.mono ?_;rintro e w' ⟨rfl,rfl⟩
     go_wp2_with fail;go_ret;exact⟨congrArg (fun z=>Ending.returned (.int .i64 z)) HC.out.symm,rfl⟩
theorem BN{w:World}{g:Nat}{t:TypeId}{a b:Value}(h:Blk w g t #[a,b])(a' b':Value):
  (w.setCell ⟨g,0,none⟩ a').cell? ⟨g,0,none⟩=some a'/\((w.setCell ⟨g,0,none⟩ a').setCell ⟨g,1,none⟩ b').cell? ⟨g,1,none⟩=some b':=
 ⟨(h.set_ 0 a').cell 0,((h.set_ 0 a').set_ 1 b').cell 1⟩
def AL(B:Nat)(w:World)(v:Value)(z:Int):Prop:=∃m,v= .agg #[.bool (decide (z<0)),m]/\Own B w m (Ac z.natAbs)
def Ar(w:World)(v:Value)(z:Int):Prop:=∃m,v= .agg #[.bool (decide (z<0)),m]/\Arr w m (Ac z.natAbs)
section
variable {w w':World} {v:Value} {z:Int} {B B':Nat}
theorem AL.ext(h:AL B w v z)(hb:Ext w w'):AL B w' v z:=by
 obtain⟨m,h1,h2⟩:=h;exact⟨m,h1,h2.ext hb⟩
theorem AL.mono(h:AL B w v z)(hB:B'<=B):AL B' w v z:=by
 obtain⟨m,h1,h2⟩:=h;exact⟨m,h1,h2.mono hB⟩
theorem AL.far(h:AL B w v z){p:Addr}(hp:p.block<B)(u:Value):AL B (w.setCell p u) v z:=by
 obtain⟨m,h1,h2⟩:=h;exact⟨m,h1,h2.far hp u⟩
theorem AL.arr(h:AL B w v z):Ar w v z:=by
 obtain⟨m,h1,h2⟩:=h;exact⟨m,h1,h2.arr⟩
theorem Ar.ext(h:Ar w v z)(hb:Ext w w'):Ar w' v z:=by
 obtain⟨m,h1,h2⟩:=h;exact⟨m,h1,h2.ext hb⟩
end
def sgn(neg:Bool)(n:Nat):Int:=if neg then-(n:Int) else n
theorem CR(neg:Bool)(n:Nat):(sgn neg n).natAbs=n:=by unfold sgn;split<;>omega
theorem Il(neg:Bool)(n:Nat):decide (sgn neg n<0)=(neg && decide (0<n)):=by
 unfold sgn;cases neg<;>simp
theorem SQ(n:Nat):decide (0<(Ac n).length)=decide (0<n):=by
 rcases Nat.eq_zero_or_pos n with h|h
 ·subst h;rfl
 ·have:0<(Ac n).length:=by rw[Cj n (by omega)];simp
  simp[h,this]
theorem Lx(n:Nat):decide (0<(Ac n).length)=decide (sgn true n<0):=by rw[SQ,Il];rfl
theorem JS(n:Nat):false=decide (sgn false n<0):=by rw[Il];rfl
theorem AL.laid{w w1:World}{g:Nat}{t:TypeId}{a b m:Value}{bb neg:Bool}{n B:Nat}(YL:Blk w1 g t #[a,b])(ho:Own B w1 m (Ac n))(hg:g<B)(hs:bb=decide (sgn neg n<0))(he:Ext w w1)(hw:w.heap.size<=g):
  AL w.heap.size ((w1.setCell ⟨g,0,none⟩ (.bool bb)).setCell ⟨g,1,none⟩ m) (.agg #[.bool bb,m]) (sgn neg n)/\Ext w ((w1.setCell ⟨g,0,none⟩ (.bool bb)).setCell ⟨g,1,none⟩ m):=by
 refine⟨⟨m,by rw[hs],?_⟩,(he.setCell hw _).setCell hw _⟩;rw[CR];exact((ho.far (p:=⟨g,0,none⟩) hg _).far (p:=⟨g,1,none⟩) hg _).mono (by omega)
theorem AL.stored{w w1:World}{g B:Nat}{t:TypeId}{a b:Value}{bb:Bool}{m:Value}{z:Int}(YL:Blk w1 g t #[a,b])(hi:AL B w1 (.agg #[.bool bb,m]) z)(hg:g<B)(he:Ext w w1)(hw:w.heap.size<=g):
  AL w.heap.size ((w1.setCell ⟨g,0,none⟩ (.bool bb)).setCell ⟨g,1,none⟩ m) (.agg #[.bool bb,m]) z/\Ext w ((w1.setCell ⟨g,0,none⟩ (.bool bb)).setCell ⟨g,1,none⟩ m):=
 ⟨((hi.far (p:=⟨g,0,none⟩) hg _).far (p:=⟨g,1,none⟩) hg _).mono (by omega),(he.setCell hw _).setCell hw _⟩
theorem Cq(w:World)(neg:Bool)(v:Value)(xs:List Nat)(h:Arr w v xs)(hn:xs.length<=1073741824):
  Calls Tryz.prog 64 #[.bool neg,v] w fun e w'=>∃v',e= .returned v'/\AL w.heap.size w' v' (sgn neg (val xs))/\Ext w w':=by
 have HT:=hid (fun W hx=>Cw W v xs (h.ext hx) hn);have fV:=hid (Lx (val xs));have ka:=hid (JS (val xs));clear h;cases neg
 ·go_enter Tryz.func64,Tryz.ntmps64;go_wp2_with fail;refine(HT.out _ ((Ext.refl w).alloc _)).mono ?_
  rintro e w' ⟨v',rfl,ho,hx⟩;have HO:=hid ho;obtain⟨A,c,hv,_⟩:=ho.2;rw[List.length_map]at hv;subst hv;clear ho;have bJ:=(Blk.new w 24 #[.bool false,.slice none 0 0]).ext hx;have hc0:w'.cell? ⟨w.heap.size,0,none⟩=some (.bool false):=bJ.cell 0;have hc1:w'.cell? ⟨w.heap.size,1,none⟩=some (.slice none 0 0):=bJ.cell 1;have hf0:=bJ.frozen 0;have dY:=bJ.frozen 1;have hz:=bJ.lt;have HX:=hid hx;have HB:=hid bJ;clear hx bJ;go_wp2_with fail;obtain⟨ak,ae⟩:=BN HB.out (.bool false) (.slice A (Ac (val xs)).length c);refine bodyPost_ret (v:= .agg #[.bool false,.slice A (Ac (val xs)).length c]) (by simp[results,Tryz.results64,go_sem,ak,ae]) rfl ?_
  exact⟨_,rfl,AL.laid HB.out HO.out (by simp) ka.out (((Ext.refl w).alloc _).trans HX.out) (Nat.le_refl _)⟩
 ·go_enter Tryz.func64,Tryz.ntmps64;go_wp2_with fail;refine(HT.out _ ((Ext.refl w).alloc _)).mono ?_
  rintro e w' ⟨v',rfl,ho,hx⟩;have HO:=hid ho;obtain⟨A,c,hv,_⟩:=ho.2;rw[List.length_map]at hv;subst hv;clear ho;have bJ:=(Blk.new w 24 #[.bool false,.slice none 0 0]).ext hx;have hc0:w'.cell? ⟨w.heap.size,0,none⟩=some (.bool false):=bJ.cell 0;have hc1:w'.cell? ⟨w.heap.size,1,none⟩=some (.slice none 0 0):=bJ.cell 1;have hf0:=bJ.frozen 0;have dY:=bJ.frozen 1;have hz:=bJ.lt;have HX:=hid hx;have HB:=hid bJ;clear hx bJ;go_wp2_with fail;obtain⟨ak,ae⟩:=BN HB.out (.bool (decide (0<(Ac (val xs)).length))) (.slice A (Ac (val xs)).length c);refine bodyPost_ret (v:= .agg #[.bool (decide (0<(Ac (val xs)).length)),.slice A (Ac (val xs)).length c]) (by simp[results,Tryz.results64,go_sem,ak,ae]) rfl ?_
  exact⟨_,rfl,AL.laid HB.out HO.out (by simp) fV.out (((Ext.refl w).alloc _).trans HX.out) (Nat.le_refl _)⟩
end Big
end Go.Proofs.YtkoaogkknnelaaaGreatDoor
