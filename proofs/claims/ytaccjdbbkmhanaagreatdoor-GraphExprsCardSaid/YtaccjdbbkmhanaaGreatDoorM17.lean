import Derived.Test.YtaccjdbbkmhanaaGreatDoorM6
import Derived.Test.YtaccjdbbkmhanaaGreatDoorM12
import Derived.Test.YtaccjdbbkmhanaaGreatDoorM2
import Derived.Test.YtaccjdbbkmhanaaGreatDoorM7
import Derived.Deep.LoopGhost
namespace Go.Proofs.YtaccjdbbkmhanaaGreatDoor
namespace Big
open Go.RowKit
theorem inat_any (w:World) (neg:Bool) (v:Value) (xs:List Nat) (h:Arr w v xs) (hn:xs.length≤1073741824):
  Calls Tryz.prog 98 #[.bool neg,v] w fun e w'=>∃v',e= .returned v'∧IsInt w.heap.size w' v' (sgn neg (val xs))∧Ext w w':=by
 have HT:=Lib.hid (fun W hx=>trim_any W v xs (h.ext hx) hn)
 have HS1:=Lib.hid (sgn_true (val xs))
 have HS2:=Lib.hid (sgn_false (val xs))
 clear h
 cases neg
 ·go_enter Tryz.func98,Tryz.ntmps98
  go_wp2_with fail
  refine (HT.out _ ((Ext.refl w).alloc _)).mono ?_
  rintro e w' ⟨v',rfl,ho,hx⟩
  have HO:=Lib.hid ho
  obtain ⟨A,c,hv,_⟩:=ho.2
  rw [List.length_map] at hv
  subst hv
  clear ho
  have hbk:=(Blk.new w 115 #[Value.bool false,Value.slice none 0 0]).ext hx
  have hc0:w'.cell? ⟨w.heap.size,0,none⟩=some (.bool false):=hbk.cell 0
  have hc1:w'.cell? ⟨w.heap.size,1,none⟩=some (.slice none 0 0):=hbk.cell 1
  have hf0:=hbk.frozen 0
  have hf1:=hbk.frozen 1
  have hz:=hbk.lt
  have HX:=Lib.hid hx
  have HB:=Lib.hid hbk
  clear hx hbk
  go_wp2_with fail
  obtain ⟨hr0,hr1⟩:=two_set' HB.out (.bool false) (.slice A (limbs (val xs)).length c)
  refine bodyPost_ret (v:= .agg #[.bool false,.slice A (limbs (val xs)).length c]) (by simp [results,Tryz.results98,go_sem,hr0,hr1]) rfl ?_
  exact ⟨_,rfl,IsInt.laid HB.out HO.out (by simp) HS2.out (((Ext.refl w).alloc _).trans HX.out) (Nat.le_refl _)⟩
 ·go_enter Tryz.func98,Tryz.ntmps98
  go_wp2_with fail
  refine (HT.out _ ((Ext.refl w).alloc _)).mono ?_
  rintro e w' ⟨v',rfl,ho,hx⟩
  have HO:=Lib.hid ho
  obtain ⟨A,c,hv,_⟩:=ho.2
  rw [List.length_map] at hv
  subst hv
  clear ho
  have hbk:=(Blk.new w 115 #[Value.bool false,Value.slice none 0 0]).ext hx
  have hc0:w'.cell? ⟨w.heap.size,0,none⟩=some (.bool false):=hbk.cell 0
  have hc1:w'.cell? ⟨w.heap.size,1,none⟩=some (.slice none 0 0):=hbk.cell 1
  have hf0:=hbk.frozen 0
  have hf1:=hbk.frozen 1
  have hz:=hbk.lt
  have HX:=Lib.hid hx
  have HB:=Lib.hid hbk
  clear hx hbk
  go_wp2_with fail
  obtain ⟨hr0,hr1⟩:=two_set' HB.out (.bool (decide (0<(limbs (val xs)).length))) (.slice A (limbs (val xs)).length c)
  refine bodyPost_ret (v:= .agg #[.bool (decide (0<(limbs (val xs)).length)),.slice A (limbs (val xs)).length c]) (by simp [results,Tryz.results98,go_sem,hr0,hr1]) rfl ?_
  exact ⟨_,rfl,IsInt.laid HB.out HO.out (by simp) HS1.out (((Ext.refl w).alloc _).trans HX.out) (Nat.le_refl _)⟩
end Big
end Go.Proofs.YtaccjdbbkmhanaaGreatDoor
namespace Go.Proofs.YtaccjdbbkmhanaaGreatDoor
namespace Big
open Go.RowKit
@[irreducible] def was (w:World) (g o:Nat):Value:=(w.cell? ⟨g,o,none⟩).getD undef
theorem IsInt.put {w w1 w':World} {g:Nat} {bi:Bool} {m:Value} {z:Int} (hi:IsInt w1.heap.size w' (.agg #[.bool bi,m]) z) (hg:g<w1.heap.size) (hw:w.heap.size≤w1.heap.size):
  IsInt w.heap.size ((w'.setCell ⟨g,0,none⟩ (.bool bi)).setCell ⟨g,1,none⟩ m) (.agg #[.bool bi,m]) z:=((hi.far hg _).far hg _).mono hw
end Big
end Go.Proofs.YtaccjdbbkmhanaaGreatDoor
namespace Go.Proofs.YtaccjdbbkmhanaaGreatDoor
namespace Big
open Go.RowKit
def IsRat (B:Nat) (w:World) (v:Value) (p:Int) (q:Nat):Prop:=∃m d,v= .agg #[.bool (decide (p<0)),m,d]∧Own B w m (limbs p.natAbs)∧Own B w d (limbs q)
def ArrRat (w:World) (v:Value) (p:Int) (q:Nat):Prop:=∃m d,v= .agg #[.bool (decide (p<0)),m,d]∧Arr w m (limbs p.natAbs)∧Arr w d (limbs q)
section
variable {B B':Nat} {w w':World} {v:Value} {p:Int} {q:Nat}
theorem IsRat.ext (h:IsRat B w v p q) (hb:Ext w w'):IsRat B w' v p q:=by
 obtain ⟨m,d,rfl,h1,h2⟩:=h
 exact ⟨m,d,rfl,h1.ext hb,h2.ext hb⟩
theorem IsRat.mono (h:IsRat B w v p q) (hB:B'≤B):IsRat B' w v p q:=by
 obtain ⟨m,d,rfl,h1,h2⟩:=h
 exact ⟨m,d,rfl,h1.mono hB,h2.mono hB⟩
theorem IsRat.far (h:IsRat B w v p q) {a:Addr} (ha:a.block<B) (u:Value):IsRat B (w.setCell a u) v p q:=by
 obtain ⟨m,d,rfl,h1,h2⟩:=h
 exact ⟨m,d,rfl,h1.far ha u,h2.far ha u⟩
theorem IsRat.arr (h:IsRat B w v p q):ArrRat w v p q:=by
 obtain ⟨m,d,rfl,h1,h2⟩:=h
 exact ⟨m,d,rfl,h1.arr,h2.arr⟩
theorem ArrRat.ext (h:ArrRat w v p q) (hb:Ext w w'):ArrRat w' v p q:=by
 obtain ⟨m,d,rfl,h1,h2⟩:=h
 exact ⟨m,d,rfl,h1.ext hb,h2.ext hb⟩
theorem ArrRat.shape (h:ArrRat w v p q):∃b n A c n' A' c',v= .agg #[.bool b,.slice A n c,.slice A' n' c']:=by
 obtain ⟨m,d,rfl,h1,h2⟩:=h
 obtain ⟨n,A,c,rfl⟩:=h1.shape
 obtain ⟨n',A',c',rfl⟩:=h2.shape
 exact ⟨_,n,A,c,n',A',c',rfl⟩
theorem IsRat.shape (h:IsRat B w v p q):∃b n A c n' A' c',v= .agg #[.bool b,.slice A n c,.slice A' n' c']:=h.arr.shape
theorem agg3 {a b c a' b' c':Value} (h:Value.agg #[a,b,c]= .agg #[a',b',c']):a=a'∧b=b'∧c=c':=by
 injection h with h
 injection h with h
 injection h with h1 h
 injection h with h2 h
 injection h with h3 h
 exact ⟨h1,h2,h3⟩
theorem ArrRat.sign {bb:Bool} {m d:Value} (h:ArrRat w (.agg #[.bool bb,m,d]) p q):bb=decide (p<0):=by
 obtain ⟨m',d',he,h1,h2⟩:=h
 obtain ⟨e1,_,_⟩:=agg3 he
 injection e1
theorem ArrRat.num {bb:Bool} {m d:Value} (h:ArrRat w (.agg #[.bool bb,m,d]) p q):Arr w m (limbs p.natAbs):=by
 obtain ⟨m',d',he,h1,h2⟩:=h
 obtain ⟨_,e2,_⟩:=agg3 he
 rw [e2];exact h1
theorem ArrRat.int {bb:Bool} {m d:Value} (h:ArrRat w (.agg #[.bool bb,m,d]) p q):ArrInt w (.agg #[.bool bb,m]) p:=⟨m,by rw [h.sign],h.num⟩
theorem IsRat.mk {bb:Bool} {m d:Value} (h:IsInt B w (.agg #[.bool bb,m]) p) (h':Own B w d (limbs q)):IsRat B w (.agg #[.bool bb,m,d]) p q:=⟨m,d,by rw [h.sign],h.mag,h'⟩
end
def lowN (z:Int) (d:Nat):Int:=sgn (decide (z<0)) (z.natAbs / Nat.gcd z.natAbs d)
def lowD (z:Int) (d:Nat):Nat:=d / Nat.gcd z.natAbs d
theorem three_set {w:World} {g:Nat} {t:TypeId} {a b c:Value} (h:Blk w g t #[a,b,c]) (a' b' c':Value):
  (w.setCell ⟨g,0,none⟩ a').cell? ⟨g,0,none⟩=some a'∧((w.setCell ⟨g,0,none⟩ a').setCell ⟨g,1,none⟩ b').cell? ⟨g,1,none⟩=some b'∧(((w.setCell ⟨g,0,none⟩ a').setCell ⟨g,1,none⟩ b').setCell ⟨g,2,none⟩ c').cell? ⟨g,2,none⟩=some c':=
 ⟨(h.set_ 0 a').cell 0,((h.set_ 0 a').set_ 1 b').cell 1,(((h.set_ 0 a').set_ 1 b').set_ 2 c').cell 2⟩
theorem IsRat.put {w w1 w':World} {g:Nat} {bi:Bool} {m d:Value} {p:Int} {q:Nat} (hi:IsRat w1.heap.size w' (.agg #[.bool bi,m,d]) p q) (hg:g<w1.heap.size) (hw:w.heap.size≤w1.heap.size):
  IsRat w.heap.size (((w'.setCell ⟨g,0,none⟩ (.bool bi)).setCell ⟨g,1,none⟩ m).setCell ⟨g,2,none⟩ d) (.agg #[.bool bi,m,d]) p q:=(((hi.far hg _).far hg _).far hg _).mono hw
theorem IsRat.zero (B:Nat) (w:World):IsRat B w (.agg #[.bool false,.slice none 0 0,.slice none 0 0]) 0 0:=⟨_,_,rfl,Own.none_ _ _,Own.none_ _ _⟩
end Big
end Go.Proofs.YtaccjdbbkmhanaaGreatDoor
namespace Go.Proofs.YtaccjdbbkmhanaaGreatDoor
namespace Big
open Go.RowKit
theorem limbs_pos_len {g:Nat} (h:0<g):0<(limbs g).length:=List.length_pos_iff.2 (fun e=>by rw [limbs_eq_nil] at e;omega)
theorem rgcd_any (w:World) (v u:Value) (X Y:Nat) (h:Arr w v (limbs X)) (h':Arr w u (limbs Y)) (hn:(limbs X).length≤134217728) (hn':(limbs Y).length≤134217728):
  Calls Tryz.prog 155 #[v,u] w fun e w'=>∃v',e= .returned v'∧Arr w' v' (limbs (Nat.gcd X Y))∧Ext w w':=by
 have HA:=Lib.hid h
 have HB:=Lib.hid h'
 obtain ⟨n1,A1,c1,rfl⟩:=h.shape
 obtain ⟨n2,A2,c2,rfl⟩:=h'.shape
 clear h h'
 go_enter Tryz.func155,Tryz.ntmps155
 go_wp2_with fail
 go_loopg [0,1] Y (fun gh s0 s1 wr=>∃(g x:Nat) (na:Nat) (Aa:Option Addr) (ca nb:Nat) (Ab:Option Addr) (cb:Nat),gh=g∧s0= .slice Aa na ca∧s1= .slice Ab nb cb∧Arr wr s0 (limbs x)∧Arr wr s1 (limbs g)∧Nat.gcd x g=Nat.gcd X Y∧(limbs x).length≤134217728∧(limbs g).length≤134217728∧Ext w wr)
 case atStart=>exact ⟨Y,X,n1,A1,c1,n2,A2,c2,rfl,rfl,rfl,HA.out,HB.out,rfl,hn,hn',Ext.refl _⟩
 case round=>
  obtain ⟨g,x,na,Aa,ca,nb,Ab,cb,hgg,rfl,rfl,hoa,hob,hg,hlx,hlg,hext⟩:=hrel
  have HGG:=Lib.hid hgg
  have HG:=Lib.hid hg
  have HXT:=Lib.hid hext
  have HOB:=Lib.hid hob
  have hnb:=hob.len
  clear hgg hg hext HA HB
  rcases Nat.eq_zero_or_pos g with h0|h0
  ·subst h0
   rw [limbs_zero,List.length_nil] at hnb
   subst hnb
   have HV:Hid (Arr wr (.slice Aa na ca) (limbs (Nat.gcd X Y))):=Lib.hid (by
    have h1:=HG.out
    rw [Nat.gcd_zero_right] at h1
    rw [←h1]
    exact hoa)
   clear hoa hob
   go_wp2_with fail
   go_ret
   exact ⟨_,rfl,HV.out,HXT.out⟩
  ·have hl1:0<nb:=by rw [hnb];exact limbs_pos_len h0
   have HD:=Lib.hid (rdivmod_any wr _ _ _ _ hoa hob hlx hlg (by rw [val_limbs];exact h0))
   rw [val_limbs,val_limbs] at HD
   have hmod:=Nat.mod_lt x h0
   have hlm:=Nat.le_trans (limbs_mono (Nat.le_of_lt hmod)) hlg
   have HG2:=Lib.hid (show Nat.gcd g (x % g)=Nat.gcd X Y by rw [←gcd_step,HG.out])
   have hb0:(0:Int)<(nb:Int):=by omega
   clear hoa hob hnb
   go_wp2_with fail
   refine HD.out.mono ?_
   rintro e w3 ⟨v3,u3,rfl,hq3,hr3,hx3⟩
   have HB3:=Lib.hid (HOB.out.ext hx3)
   have HR3:=Lib.hid hr3
   have HX3:=Lib.hid (HXT.out.trans hx3)
   obtain ⟨n3,A3,c3,rfl⟩:=hq3.arr.2.shape
   obtain ⟨n4,A4,c4,rfl⟩:=hr3.2.shape
   clear hq3 hr3 hx3
   go_wp2_with fail
   go_roundg (x % g)
   case rel=>exact ⟨x % g,g,nb,Ab,cb,n4,A4,c4,rfl,rfl,rfl,HB3.out,HR3.out,HG2.out,hlg,hlm,HX3.out⟩
   case measure=>rw [HGG.out];exact hmod
theorem rdiv_any (w:World) (v u:Value) (X Y:Nat) (h:Arr w v (limbs X)) (h':Arr w u (limbs Y)) (hn:(limbs X).length≤134217728) (hn':(limbs Y).length≤134217728) (hy:0<Y):
  Calls Tryz.prog 156 #[v,u] w fun e w'=>∃v',e= .returned v'∧Own w.heap.size w' v' (limbs (X / Y))∧Ext w w':=by
 have HD:=Lib.hid (rdivmod_any w v u _ _ h h' hn hn' (by rw [val_limbs];exact hy))
 rw [val_limbs,val_limbs] at HD
 clear h h'
 go_enter Tryz.func156,Tryz.ntmps156
 go_wp2_with fail
 refine HD.out.mono ?_
 rintro e w3 ⟨v3,u3,rfl,hq3,hr3,hx3⟩
 have HQ3:=Lib.hid hq3
 have HX3:=Lib.hid hx3
 obtain ⟨n3,A3,c3,rfl⟩:=hq3.arr.2.shape
 obtain ⟨n4,A4,c4,rfl⟩:=hr3.2.shape
 clear hq3 hr3 hx3
 go_wp2_with fail
 go_ret
 exact ⟨_,rfl,HQ3.out,HX3.out⟩
def RLowPost (X Y:Nat) (w:World) (e:Ending) (w':World):Prop:=
 ∃v' u',e= .returned (.tuple #[v',u',.bool true])∧Own w.heap.size w' v' (limbs (X / Nat.gcd X Y))∧Own w.heap.size w' u' (limbs (Y / Nat.gcd X Y))∧Ext w w'
theorem rlowest_any (w:World) (v u:Value) (X Y:Nat) (h:Arr w v (limbs X)) (h':Arr w u (limbs Y)) (hn:(limbs X).length≤134217728) (hn':(limbs Y).length≤134217728) (hy:0<Y):
  Calls Tryz.prog 137 #[v,u] w (RLowPost X Y w):=by
 have HG:=Lib.hid (rgcd_any w v u X Y h h' hn hn')
 have hg0:0<Nat.gcd X Y:=Nat.gcd_pos_of_pos_right _ hy
 have hgl:(limbs (Nat.gcd X Y)).length≤134217728:=Nat.le_trans (limbs_mono (Nat.gcd_le_right _ hy)) hn'
 have HD1:=Lib.hid (fun W z hx a=>rdiv_any W v z X (Nat.gcd X Y) (h.ext hx) a hn hgl hg0)
 have HD2:=Lib.hid (fun W z hx a=>rdiv_any W u z Y (Nat.gcd X Y) (h'.ext hx) a hn' hgl hg0)
 obtain ⟨nv,Av,cv,rfl⟩:=h.shape
 obtain ⟨nu,Au,cu,rfl⟩:=h'.shape
 have hl:=h'.len
 have hl0:=limbs_pos_len hy
 rw [←hl] at hl0
 have hlb:((nu:Int) == 0)=false:=by rw [beq_eq_false_iff_ne];omega
 clear h h' hn hn' hgl hl hg0 hl0
 go_enter Tryz.func137,Tryz.ntmps137
 go_wp2_with fail
 refine HG.out.mono ?_
 rintro e w1 ⟨v1,rfl,ho1,hx1⟩
 have HX1:=Lib.hid hx1
 have HO1:=Lib.hid ho1
 obtain ⟨n1,A1,c1,rfl⟩:=ho1.2.shape
 clear ho1 hx1
 go_wp2_with fail
 refine (HD1.out _ _ HX1.out HO1.out).mono ?_
 rintro e w2 ⟨v2,rfl,ho2,hx2⟩
 have HX2:=Lib.hid (HX1.out.trans hx2)
 have HO2:=Lib.hid (ho2.mono HX1.out.size)
 have HO1':=Lib.hid (HO1.out.ext hx2)
 obtain ⟨n2,A2,c2,rfl⟩:=ho2.shape
 clear ho2 hx2
 go_wp2_with fail
 refine (HD2.out _ _ HX2.out HO1'.out).mono ?_
 rintro e w3 ⟨v3,rfl,ho3,hx3⟩
 have HX3:=Lib.hid (HX2.out.trans hx3)
 have HO3:=Lib.hid (ho3.mono HX2.out.size)
 have HO2':=Lib.hid (HO2.out.ext hx3)
 obtain ⟨n3,A3,c3,rfl⟩:=ho3.shape
 clear ho3 hx3
 go_wp2_with fail
 go_ret3
 exact ⟨_,_,rfl,HO2'.out,HO3.out,HX3.out⟩
def makeN (x y:Int):Int:=sgn (decide (x<0) != decide (y<0)) (x.natAbs / Nat.gcd x.natAbs y.natAbs)
def makeD (x y:Int):Nat:=y.natAbs / Nat.gcd x.natAbs y.natAbs
set_option maxHeartbeats 1000000 in
set_option maxRecDepth 100000 in
theorem rmake_any (w:World) (v u:Value) (x y:Int) (h:ArrInt w v x) (h':ArrInt w u y) (hn:(limbs x.natAbs).length≤134217728) (hn':(limbs y.natAbs).length≤134217728) (hy:y≠0):
  Calls Tryz.prog 110 #[v,u] w fun e w'=>∃v',e= .returned (.tuple #[v',.int .i64 0])∧IsRat w.heap.size w' v' (makeN x y) (makeD x y)∧Ext w w':=by
 obtain ⟨b,n,A,c,rfl⟩:=h.shape
 obtain ⟨b',n',A',c',rfl⟩:=h'.shape
 have HL:=Lib.hid (fun W hx=>rlowest_any W (.slice A n c) (.slice A' n' c') x.natAbs y.natAbs (h.mag.ext hx) (h'.mag.ext hx) hn hn' (by omega))
 have HI:=Lib.hid (fun W m a=>rnat_any W (b != b') m (limbs (x.natAbs / Nat.gcd x.natAbs y.natAbs)) a (Nat.le_trans (limbs_mono (Nat.div_le_self _ _)) (by omega)))
 rw [val_limbs] at HI
 have HS:=Lib.hid h.sign
 have HS':=Lib.hid h'.sign
 clear h h' hn hn'
 go_enter Tryz.func110,Tryz.ntmps110
 go_wp2_with fail
 have hb0:=((Blk.new w 115 #[Value.bool b,Value.slice A n c]).alloc (.cells #[Value.bool b',Value.slice A' n' c'] 115)).alloc (.cells #[Value.bool false,Value.slice none 0 0,Value.slice none 0 0] 117)
 have hb1:=(Blk.new (w.alloc (.cells #[Value.bool b,Value.slice A n c] 115)) 115 #[Value.bool b',Value.slice A' n' c']).alloc (.cells #[Value.bool false,Value.slice none 0 0,Value.slice none 0 0] 117)
 have hb2:=Blk.new ((w.alloc (.cells #[Value.bool b,Value.slice A n c] 115)).alloc (.cells #[Value.bool b',Value.slice A' n' c'] 115)) 117 #[Value.bool false,Value.slice none 0 0,Value.slice none 0 0]
 have hxo:=(((Ext.refl w).alloc (.cells #[Value.bool b,Value.slice A n c] 115)).alloc (.cells #[Value.bool b',Value.slice A' n' c'] 115)).alloc (.cells #[Value.bool false,Value.slice none 0 0,Value.slice none 0 0] 117)
 have hszo:w.heap.size+1+1<(((w.alloc (.cells #[Value.bool b,Value.slice A n c] 115)).alloc (.cells #[Value.bool b',Value.slice A' n' c'] 115)).alloc (.cells #[Value.bool false,Value.slice none 0 0,Value.slice none 0 0] 117)).heap.size:=by simp
 simp only [World.size_alloc] at hb1 hb2
 generalize ((w.alloc (.cells #[Value.bool b,Value.slice A n c] 115)).alloc (.cells #[Value.bool b',Value.slice A' n' c'] 115)).alloc (.cells #[Value.bool false,Value.slice none 0 0,Value.slice none 0 0] 117)=wo at *
 refine (HL.out _ hxo).mono ?_
 rintro e w1 ⟨v1,u1,rfl,ho1,hr1,hx1⟩
 have hk0:=hb0.ext hx1
 have hk1:=hb1.ext hx1
 have hk2:=hb2.ext hx1
 have HO1:=Lib.hid ho1
 have HR1:=Lib.hid hr1
 obtain ⟨n1,A1,c1,rfl⟩:=ho1.shape
 obtain ⟨n2,A2,c2,rfl⟩:=hr1.shape
 obtain ⟨h0,h1,_,_,_⟩:=hk0.two
 obtain ⟨h2,h3,_,_,_⟩:=hk1.two
 have HK1:=Lib.hid hk2
 have HX1:=Lib.hid (hxo.trans hx1)
 have HSZ:=Lib.hid hx1.size
 clear hb0 hb1 hb2 hx1 ho1 hr1 hk0 hk1 hk2 hxo
 go_wp2_with fail
 refine (HI.out _ _ HO1.out.arr).mono ?_
 rintro e w2 ⟨v2,rfl,hi2,hx2⟩
 have HI2:=Lib.hid hi2
 have HR2:=Lib.hid (HR1.out.ext hx2)
 have hk1:=HK1.out.ext hx2
 obtain ⟨b3,n3,A3,c3,rfl⟩:=hi2.shape
 obtain ⟨k0,k1,k2,f0,f1,f2,hgz⟩:=hk1.three
 have HX2:=Lib.hid (HX1.out.trans hx2)
 have HK2:=Lib.hid hk1
 clear hi2 hx2 hk1
 go_wp2_with fail
 obtain ⟨hr0,hr1,hr2⟩:=three_set HK2.out (.bool b3) (.slice A3 n3 c3) (.slice A2 n2 c2)
 refine bodyPost_ret (v:= .tuple #[.agg #[.bool b3,.slice A3 n3 c3,.slice A2 n2 c2],.int .i64 0]) (by simp [results,Tryz.results110,go_sem,hr0,hr1,hr2]) rfl ?_
 have hfin:IsRat wo.heap.size w2 (.agg #[.bool b3,.slice A3 n3 c3,.slice A2 n2 c2]) (makeN x y) (makeD x y):=IsRat.mk (by
  have h1:=HI2.out.mono HSZ.out
  rw [HS.out,HS'.out] at h1
  exact h1) HR2.out
 exact ⟨_,rfl,hfin.put hszo (by omega),((HX2.out.setCell (by show _≤w.heap.size+1+1;omega) _).setCell (by show _≤w.heap.size+1+1;omega) _).setCell (by show _≤w.heap.size+1+1;omega) _⟩
set_option maxHeartbeats 1000000 in
set_option maxRecDepth 100000 in
theorem rof7_any (w:World) (v u:Value) (x y:Int) (h:ArrInt w v x) (h':ArrInt w u y) (hn:(limbs x.natAbs).length≤134217728) (hn':(limbs y.natAbs).length≤134217728) (hy:y≠0):
  Calls Tryz.prog 88 #[v,u] w fun e w'=>∃v',e= .returned v'∧IsRat w.heap.size w' v' (makeN x y) (makeD x y)∧Ext w w':=by
 have HA:=Lib.hid h
 have HB:=Lib.hid h'
 obtain ⟨b,n,A,c,rfl⟩:=h.shape
 obtain ⟨b',n',A',c',rfl⟩:=h'.shape
 have HM:=Lib.hid (fun W hx=>rmake_any W _ _ x y (h.ext hx) (h'.ext hx) hn hn' hy)
 clear h h' hn hn'
 go_enter Tryz.func88,Tryz.ntmps88
 go_wp2_with fail
 have hb2:=Blk.new ((w.alloc (.cells #[Value.bool b,Value.slice A n c] 115)).alloc (.cells #[Value.bool b',Value.slice A' n' c'] 115)) 117 #[Value.bool false,Value.slice none 0 0,Value.slice none 0 0]
 have hxo:=(((Ext.refl w).alloc (.cells #[Value.bool b,Value.slice A n c] 115)).alloc (.cells #[Value.bool b',Value.slice A' n' c'] 115)).alloc (.cells #[Value.bool false,Value.slice none 0 0,Value.slice none 0 0] 117)
 simp only [World.size_alloc] at hb2
 generalize ((w.alloc (.cells #[Value.bool b,Value.slice A n c] 115)).alloc (.cells #[Value.bool b',Value.slice A' n' c'] 115)).alloc (.cells #[Value.bool false,Value.slice none 0 0,Value.slice none 0 0] 117)=wo at *
 refine (HM.out _ hxo).mono ?_
 rintro e w1 ⟨v1,rfl,ho1,hx1⟩
 have HO1:=Lib.hid ho1
 obtain ⟨b1,n1,A1,c1,n2,A2,c2,rfl⟩:=ho1.shape
 have hk2:=hb2.ext hx1
 have HK:=Lib.hid hk2
 have HX1:=Lib.hid (hxo.trans hx1)
 have HSZ:=Lib.hid hx1.size
 have HS0:=Lib.hid hb2.lt
 obtain ⟨k0,k1,k2,f0,f1,f2,hgz⟩:=hk2.three
 clear ho1 hx1 hk2 hb2 hxo
 go_wp2_with fail
 obtain ⟨hr0,hr1,hr2⟩:=three_set HK.out (.bool b1) (.slice A1 n1 c1) (.slice A2 n2 c2)
 obtain ⟨hs0,hs1,hs2,_⟩:=((((HK.out.set_ 0 (.bool b1)).set_ 1 (.slice A1 n1 c1)).set_ 2 (.slice A2 n2 c2)).alloc (.cells #[.bool b1,.slice A1 n1 c1,.slice A2 n2 c2] 117)).three
 refine bodyPost_ret (v:= .agg #[.bool b1,.slice A1 n1 c1,.slice A2 n2 c2]) (by simp [results,Tryz.results88,go_sem,hs0,hs1,hs2]) rfl ?_
 have hfin:=(HO1.out.put (w:=w) HS0.out (by have:=HS0.out;omega)).ext ((Ext.refl _).alloc (.cells #[.bool b1,.slice A1 n1 c1,.slice A2 n2 c2] 117))
 exact ⟨_,rfl,hfin,(((HX1.out.setCell (by show _≤w.heap.size+1+1;omega) _).setCell (by show _≤w.heap.size+1+1;omega) _).setCell (by show _≤w.heap.size+1+1;omega) _).alloc _⟩
end Big
end Go.Proofs.YtaccjdbbkmhanaaGreatDoor
