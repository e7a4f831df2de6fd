import Derived.Test.YtaccjdbbkmhanaaGreatDoorM5
import Derived.Test.YtaccjdbbkmhanaaGreatDoorM4
namespace Go.Proofs.YtaccjdbbkmhanaaGreatDoor
namespace Big
open Go.RowKit
theorem rcmp_any (w:World) (v u:Value) (xs ys:List Nat) (h:Arr w v xs) (h':Arr w u ys) (hn:xs.length≤1073741824) (hn':ys.length≤1073741824):
  Calls Tryz.prog 181 #[v,u] w fun e w'=>e= .returned (.int .i64 (cmpI (val xs) (val ys)))∧w=w':=by
 have HA:=Lib.hid h
 have HB:=Lib.hid h'
 obtain ⟨hok,A,c,rfl,hc,hm,hcell⟩:=h.open
 obtain ⟨hok',A',c',rfl,hc',hm',hcell'⟩:=h'.open
 have hdx:∀k,xs.length≤k→ys.length≤k→val (xs.drop k)=val (ys.drop k):=fun k h1 h2=>by
  rw [List.drop_eq_nil_of_le h1,List.drop_eq_nil_of_le h2]
 have HD:=Lib.hid hdx
 clear h h' hcell hcell' hm hm' hc hc' hdx
 rcases Nat.lt_or_ge xs.length ys.length with hlen|hlen
 all_goals
  go_enter Tryz.func181,Tryz.ntmps181
  go_wp2_with fail
  go_loop [5] (fun i=>∃k:Nat,k≤1073741824∧i= .int .i64 ((k:Int)-1)∧val (xs.drop k)=val (ys.drop k)) (fun i=>(intOf i+1).toNat)
  case atStart=>first|exact ⟨_,hn',rfl,HD.out _ (by omega) (by omega)⟩|exact ⟨_,hn,rfl,HD.out _ (by omega) (by omega)⟩
  case round=>
   obtain ⟨k,hk,rfl,hv⟩:=hrel
   have HV:=Lib.hid hv;clear hv
   rcases Nat.eq_zero_or_pos k with h0|h0
   ·subst h0
    have HE:=Lib.hid (cmpI_eq (show val xs=val ys from HV.out))
    go_wp2_with fail
    go_ret
    exact ⟨congrArg (fun z=>Ending.returned (.int .i64 z)) HE.out.symm,rfl⟩
   ·obtain ⟨m,rfl⟩:∃m,k=m+1:=⟨k-1,by omega⟩
    have HX:=Lib.hid (rat_any w _ xs (m:Int) HA.out (by omega))
    have HY:=Lib.hid (rat_any w _ ys (m:Int) HB.out (by omega))
    rw [Int.toNat_natCast] at HX HY
    have HL:=Lib.hid (digit_lt hok m HV.out)
    have HG:=Lib.hid (digit_lt hok' m HV.out.symm)
    have HE:=Lib.hid (fun he=>digit_eq (xs:=xs) (ys:=ys) m HV.out he)
    obtain ⟨x,hxe⟩:∃x,xs.getD m 0=x:=⟨_,rfl⟩
    obtain ⟨y,hye⟩:∃y,ys.getD m 0=y:=⟨_,rfl⟩
    rw [hxe] at HX HL HG HE
    rw [hye] at HY HL HG HE
    clear hxe hye
    rcases Nat.lt_trichotomy x y with hxy|rfl|hxy
    ·have HC:=Lib.hid (cmpI_lt (HL.out hxy))
     go_wp2_with fail
     refine HX.out.mono ?_;rintro e w' ⟨rfl,rfl⟩
     go_wp2_with fail
     refine HY.out.mono ?_;rintro e w' ⟨rfl,rfl⟩
     go_wp2_with fail
     go_ret
     exact ⟨congrArg (fun z=>Ending.returned (.int .i64 z)) HC.out.symm,rfl⟩
    ·have HE2:=Lib.hid (HE.out rfl)
     go_wp2_with fail
     refine HX.out.mono ?_;rintro e w' ⟨rfl,rfl⟩
     go_wp2_with fail
     refine HY.out.mono ?_;rintro e w' ⟨rfl,rfl⟩
     go_wp2_with fail
     refine HX.out.mono ?_;rintro e w' ⟨rfl,rfl⟩
     go_wp2_with fail
     refine HY.out.mono ?_;rintro e w' ⟨rfl,rfl⟩
     go_wp2_with fail
     go_round
     case rel=>exact ⟨m,by omega,rfl,HE2.out⟩
     case measure=>simp [intOf]
    ·have HC:=Lib.hid (cmpI_gt (HG.out hxy))
     go_wp2_with fail
     refine HX.out.mono ?_;rintro e w' ⟨rfl,rfl⟩
     go_wp2_with fail
     refine HY.out.mono ?_;rintro e w' ⟨rfl,rfl⟩
     go_wp2_with fail
     refine HX.out.mono ?_;rintro e w' ⟨rfl,rfl⟩
     go_wp2_with fail
     refine HY.out.mono ?_;rintro e w' ⟨rfl,rfl⟩
     go_wp2_with fail
     go_ret
     exact ⟨congrArg (fun z=>Ending.returned (.int .i64 z)) HC.out.symm,rfl⟩
end Big
end Go.Proofs.YtaccjdbbkmhanaaGreatDoor
namespace Go.Proofs.YtaccjdbbkmhanaaGreatDoor
namespace Big
open Go.RowKit
theorem two_set' {w:World} {g:Nat} {t:TypeId} {a b:Value} (h:Blk w g t #[a,b]) (a' b':Value):
  (w.setCell ⟨g,0,none⟩ a').cell? ⟨g,0,none⟩=some a'∧((w.setCell ⟨g,0,none⟩ a').setCell ⟨g,1,none⟩ b').cell? ⟨g,1,none⟩=some b':=
 ⟨(h.set_ 0 a').cell 0,((h.set_ 0 a').set_ 1 b').cell 1⟩
end Big
end Go.Proofs.YtaccjdbbkmhanaaGreatDoor
namespace Go.Proofs.YtaccjdbbkmhanaaGreatDoor
namespace Big
open Go.RowKit
def IsInt (B:Nat) (w:World) (v:Value) (z:Int):Prop:=∃m,v= .agg #[.bool (decide (z<0)),m]∧Own B w m (limbs z.natAbs)
def ArrInt (w:World) (v:Value) (z:Int):Prop:=∃m,v= .agg #[.bool (decide (z<0)),m]∧Arr w m (limbs z.natAbs)
section
variable {w w':World} {v:Value} {z:Int} {B B':Nat}
theorem IsInt.ext (h:IsInt B w v z) (hb:Ext w w'):IsInt B w' v z:=by
 obtain ⟨m,h1,h2⟩:=h
 exact ⟨m,h1,h2.ext hb⟩
theorem IsInt.mono (h:IsInt B w v z) (hB:B'≤B):IsInt B' w v z:=by
 obtain ⟨m,h1,h2⟩:=h
 exact ⟨m,h1,h2.mono hB⟩
theorem IsInt.far (h:IsInt B w v z) {p:Addr} (hp:p.block<B) (u:Value):IsInt B (w.setCell p u) v z:=by
 obtain ⟨m,h1,h2⟩:=h
 exact ⟨m,h1,h2.far hp u⟩
theorem IsInt.arr (h:IsInt B w v z):ArrInt w v z:=by
 obtain ⟨m,h1,h2⟩:=h
 exact ⟨m,h1,h2.arr⟩
theorem ArrInt.ext (h:ArrInt w v z) (hb:Ext w w'):ArrInt w' v z:=by
 obtain ⟨m,h1,h2⟩:=h
 exact ⟨m,h1,h2.ext hb⟩
end
def sgn (neg:Bool) (n:Nat):Int:=if neg then-(n:Int) else n
theorem natAbs_sgn (neg:Bool) (n:Nat):(sgn neg n).natAbs=n:=by unfold sgn;split<;>omega
theorem sgn_neg (neg:Bool) (n:Nat):decide (sgn neg n<0)=(neg && decide (0<n)):=by
 unfold sgn
 cases neg<;>simp
theorem len_pos (n:Nat):decide (0<(limbs n).length)=decide (0<n):=by
 rcases Nat.eq_zero_or_pos n with h|h
 ·subst h;rfl
 ·have:0<(limbs n).length:=by rw [limbs_pos n (by omega)];simp
  simp [h,this]
theorem sgn_true (n:Nat):decide (0<(limbs n).length)=decide (sgn true n<0):=by rw [len_pos,sgn_neg];rfl
theorem sgn_false (n:Nat):false=decide (sgn false n<0):=by rw [sgn_neg];rfl
theorem IsInt.laid {w w1:World} {g:Nat} {t:TypeId} {a b m:Value} {bb neg:Bool} {n B:Nat} (_hb:Blk w1 g t #[a,b]) (ho:Own B w1 m (limbs n)) (hg:g<B) (hs:bb=decide (sgn neg n<0)) (he:Ext w w1) (hw:w.heap.size≤g):
  IsInt w.heap.size ((w1.setCell ⟨g,0,none⟩ (.bool bb)).setCell ⟨g,1,none⟩ m) (.agg #[.bool bb,m]) (sgn neg n)∧Ext w ((w1.setCell ⟨g,0,none⟩ (.bool bb)).setCell ⟨g,1,none⟩ m):=by
 refine ⟨⟨m,by rw [hs],?_⟩,(he.setCell hw _).setCell hw _⟩
 rw [natAbs_sgn]
 exact ((ho.far (p:=⟨g,0,none⟩) hg _).far (p:=⟨g,1,none⟩) hg _).mono (by omega)
theorem IsInt.stored {w w1:World} {g B:Nat} {t:TypeId} {a b:Value} {bb:Bool} {m:Value} {z:Int} (_hb:Blk w1 g t #[a,b]) (hi:IsInt B w1 (.agg #[.bool bb,m]) z) (hg:g<B) (he:Ext w w1) (hw:w.heap.size≤g):
  IsInt w.heap.size ((w1.setCell ⟨g,0,none⟩ (.bool bb)).setCell ⟨g,1,none⟩ m) (.agg #[.bool bb,m]) z∧Ext w ((w1.setCell ⟨g,0,none⟩ (.bool bb)).setCell ⟨g,1,none⟩ m):=
 ⟨((hi.far (p:=⟨g,0,none⟩) hg _).far (p:=⟨g,1,none⟩) hg _).mono (by omega),(he.setCell hw _).setCell hw _⟩
theorem rnat_any (w:World) (neg:Bool) (v:Value) (xs:List Nat) (h:Arr w v xs) (hn:xs.length≤1073741824):
  Calls Tryz.prog 89 #[.bool neg,v] w fun e w'=>∃v',e= .returned v'∧IsInt w.heap.size w' v' (sgn neg (val xs))∧Ext w w':=by
 have HT:=Lib.hid (fun W hx=>rtrim_any W v xs (h.ext hx) hn)
 have HS1:=Lib.hid (sgn_true (val xs))
 have HS2:=Lib.hid (sgn_false (val xs))
 clear h
 cases neg
 ·go_enter Tryz.func89,Tryz.ntmps89
  go_wp2_with fail
  refine (HT.out _ ((Ext.refl w).alloc _)).mono ?_
  rintro e w' ⟨v',rfl,ho,hx⟩
  have HO:=Lib.hid ho
  obtain ⟨A,c,hv,_⟩:=ho.2
  rw [List.length_map] at hv
  subst hv
  clear ho
  have hbk:=(Blk.new w 115 #[Value.bool false,Value.slice none 0 0]).ext hx
  have hc0:w'.cell? ⟨w.heap.size,0,none⟩=some (.bool false):=hbk.cell 0
  have hc1:w'.cell? ⟨w.heap.size,1,none⟩=some (.slice none 0 0):=hbk.cell 1
  have hf0:=hbk.frozen 0
  have hf1:=hbk.frozen 1
  have hz:=hbk.lt
  have HX:=Lib.hid hx
  have HB:=Lib.hid hbk
  clear hx hbk
  go_wp2_with fail
  obtain ⟨hr0,hr1⟩:=two_set' HB.out (.bool false) (.slice A (limbs (val xs)).length c)
  refine bodyPost_ret (v:= .agg #[.bool false,.slice A (limbs (val xs)).length c]) (by simp [results,Tryz.results89,go_sem,hr0,hr1]) rfl ?_
  exact ⟨_,rfl,IsInt.laid HB.out HO.out (by simp) HS2.out (((Ext.refl w).alloc _).trans HX.out) (Nat.le_refl _)⟩
 ·go_enter Tryz.func89,Tryz.ntmps89
  go_wp2_with fail
  refine (HT.out _ ((Ext.refl w).alloc _)).mono ?_
  rintro e w' ⟨v',rfl,ho,hx⟩
  have HO:=Lib.hid ho
  obtain ⟨A,c,hv,_⟩:=ho.2
  rw [List.length_map] at hv
  subst hv
  clear ho
  have hbk:=(Blk.new w 115 #[Value.bool false,Value.slice none 0 0]).ext hx
  have hc0:w'.cell? ⟨w.heap.size,0,none⟩=some (.bool false):=hbk.cell 0
  have hc1:w'.cell? ⟨w.heap.size,1,none⟩=some (.slice none 0 0):=hbk.cell 1
  have hf0:=hbk.frozen 0
  have hf1:=hbk.frozen 1
  have hz:=hbk.lt
  have HX:=Lib.hid hx
  have HB:=Lib.hid hbk
  clear hx hbk
  go_wp2_with fail
  obtain ⟨hr0,hr1⟩:=two_set' HB.out (.bool (decide (0<(limbs (val xs)).length))) (.slice A (limbs (val xs)).length c)
  refine bodyPost_ret (v:= .agg #[.bool (decide (0<(limbs (val xs)).length)),.slice A (limbs (val xs)).length c]) (by simp [results,Tryz.results89,go_sem,hr0,hr1]) rfl ?_
  exact ⟨_,rfl,IsInt.laid HB.out HO.out (by simp) HS1.out (((Ext.refl w).alloc _).trans HX.out) (Nat.le_refl _)⟩
end Big
end Go.Proofs.YtaccjdbbkmhanaaGreatDoor
namespace Go.Proofs.YtaccjdbbkmhanaaGreatDoor
namespace Big
open Go.RowKit
section
variable {w:World} {g:Nat} {t:TypeId} {a b c d e:Value}
theorem Blk.two (h:Blk w g t #[a,b]):w.cell? ⟨g,0,none⟩=some a∧w.cell? ⟨g,1,none⟩=some b∧w.frozen? ⟨g,0,none⟩=false∧w.frozen? ⟨g,1,none⟩=false∧g<w.heap.size:=
 ⟨h.cell 0,h.cell 1,h.frozen 0,h.frozen 1,h.lt⟩
theorem Blk.three (h:Blk w g t #[a,b,c]):w.cell? ⟨g,0,none⟩=some a∧w.cell? ⟨g,1,none⟩=some b∧w.cell? ⟨g,2,none⟩=some c∧w.frozen? ⟨g,0,none⟩=false∧w.frozen? ⟨g,1,none⟩=false∧w.frozen? ⟨g,2,none⟩=false∧g<w.heap.size:=
 ⟨h.cell 0,h.cell 1,h.cell 2,h.frozen 0,h.frozen 1,h.frozen 2,h.lt⟩
theorem ROwn.at_ {T:TypeId} {B i:Nat} {vs:List Value} (h:ROwn T B w a vs) (hi:i<vs.length):∃g c,a= .slice (some ⟨g,0,none⟩) vs.length c∧B≤g∧g<w.heap.size∧w.cell? ⟨g,i,none⟩=vs[i]?∧w.frozen? ⟨g,i,none⟩=false∧
  ∀u,ROwn T B (w.setCell ⟨g,i,none⟩ u) a (vs.set i u):=by
 obtain ⟨A,c,rfl,h2,h3,h4⟩:=h
 rcases h4 with ⟨rfl,_⟩|⟨g,cur,rfl,hg,hblk,hs,ht⟩
 ·simp at hi
 ·refine ⟨g,c,rfl,hg,hblk.lt,?_,hblk.frozen i,fun u=>⟨_,c,by rw [List.length_set],by rw [List.length_set];exact h2,h3,.inr ⟨g,_,rfl,hg,hblk.set_ i u,by simpa using hs,?_⟩⟩⟩
  ·rw [hblk.cell,List.getElem?_eq_getElem hi]
   exact take_at ht (List.getElem?_eq_getElem hi)
  ·rw [List.length_set]
   conv=>rhs;rw [←ht]
   apply List.ext_getElem?
   intro j
   simp only [Array.toList_setIfInBounds,List.getElem?_take,List.getElem?_set,List.length_take]
   have hcs:vs.length≤cur.toList.length:=by simp;omega
   by_cases hj:j<vs.length
   ·rw [if_pos hj,if_pos hj]
    by_cases hij:i=j
    ·subst hij
     rw [if_pos rfl,if_pos rfl,if_pos (by omega),if_pos (by omega)]
    ·rw [if_neg hij,if_neg hij]
   ·rw [if_neg hj]
    by_cases hij:i=j
    ·omega
    ·rw [if_neg hij,if_neg hj]
theorem RArr.shape {vs:List Value} (h:RArr w a vs):∃n A c,a= .slice A n c:=by
 obtain ⟨A,c,rfl,_⟩:=h
 exact ⟨_,A,c,rfl⟩
theorem Own.shape {B:Nat} {xs:List Nat} (h:Own B w a xs):∃n A c,a= .slice A n c:=h.arr.2.shape
theorem Arr.shape {xs:List Nat} (h:Arr w a xs):∃n A c,a= .slice A n c:=h.2.shape
theorem Arr.len {xs:List Nat} {n c:Nat} {A:Option Addr} (h:Arr w (.slice A n c) xs):n=xs.length:=by
 obtain ⟨_,A',c',he,_⟩:=h
 injection he with _ h2 _
 rw [h2,List.length_map]
theorem Own.len {B:Nat} {xs:List Nat} {n c:Nat} {A:Option Addr} (h:Own B w (.slice A n c) xs):n=xs.length:=h.arr.len
theorem IsInt.shape {B:Nat} {z:Int} (h:IsInt B w a z):∃b n A c,a= .agg #[.bool b,.slice A n c]:=by
 obtain ⟨m,rfl,h⟩:=h
 obtain ⟨n,A,c,rfl⟩:=h.shape
 exact ⟨_,n,A,c,rfl⟩
theorem ArrInt.shape {z:Int} (h:ArrInt w a z):∃b n A c,a= .agg #[.bool b,.slice A n c]:=by
 obtain ⟨m,rfl,h⟩:=h
 obtain ⟨n,A,c,rfl⟩:=h.shape
 exact ⟨_,n,A,c,rfl⟩
theorem IsInt.mag {B:Nat} {z:Int} {bb:Bool} {m:Value} (h:IsInt B w (.agg #[.bool bb,m]) z):Own B w m (limbs z.natAbs):=by
 obtain ⟨m',he,h⟩:=h
 injection he with he
 injection he with he
 injection he with _ he
 injection he with he
 subst he
 exact h
theorem IsInt.sign {B:Nat} {z:Int} {bb:Bool} {m:Value} (h:IsInt B w (.agg #[.bool bb,m]) z):bb=decide (z<0):=by
 obtain ⟨m',he,h⟩:=h
 injection he with he
 injection he with he
 injection he with he _
 injection he
theorem ArrInt.mag {z:Int} {bb:Bool} {m:Value} (h:ArrInt w (.agg #[.bool bb,m]) z):Arr w m (limbs z.natAbs):=by
 obtain ⟨m',he,h⟩:=h
 injection he with he
 injection he with he
 injection he with _ he
 injection he with he
 subst he
 exact h
theorem ArrInt.sign {z:Int} {bb:Bool} {m:Value} (h:ArrInt w (.agg #[.bool bb,m]) z):bb=decide (z<0):=by
 obtain ⟨m',he,h⟩:=h
 injection he with he
 injection he with he
 injection he with he _
 injection he
end
section
theorem Ext.keep {w w':World} {b o:Nat} {u:Value} (hx:Ext w w') (h:w.cell? ⟨b,o,none⟩=some u):w'.cell? ⟨b,o,none⟩=some u:=(hx.cell (World.block_lt_of_cell? w _ h)).trans h
theorem kept1 {wo w1 w2:World} {b0 o0:Nat} {u0:Value} (h:Ext wo w1∧w1.cell? ⟨b0,o0,none⟩=some u0) (hx:Ext w1 w2):Ext wo w2∧w2.cell? ⟨b0,o0,none⟩=some u0:=
 ⟨h.1.trans hx,hx.keep h.2⟩
theorem kept1_drew {wo:World} {b0 o0:Nat} {u0:Value} (h:wo.cell? ⟨b0,o0,none⟩=some u0):Ext wo wo.drew∧wo.drew.cell? ⟨b0,o0,none⟩=some u0:=⟨(Ext.refl wo).drew,h⟩
end
end Big
end Go.Proofs.YtaccjdbbkmhanaaGreatDoor
