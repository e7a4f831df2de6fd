import Derived.Test.YtaccjdbbkmhanaaGreatDoorM15
import Derived.Deep.LoopGhost
import Derived.Lib.ItoaNum
import Derived.Test.YtaccjdbbkmhanaaGreatDoorM4
import Derived.Test.YtaccjdbbkmhanaaGreatDoorM17
namespace Go.Proofs.YtaccjdbbkmhanaaGreatDoor
namespace Big
open Go.RowKit
def bitsN (n:Nat):Nat:=if n=0 then 0 else n.log2+1
theorem bitsN_zero {n:Nat}:bitsN n=0↔n=0:=by
 unfold bitsN
 split
 ·simp [*]
 ·simp [*]
theorem bitsN_eq {n b:Nat} (h1:2 ^ b≤n) (h2:n<2 ^ (b+1)):bitsN n=b+1:=by
 have h0:n≠0:=by
  have:0<2 ^ b:=Nat.pow_pos (by omega)
  omega
 unfold bitsN
 rw [if_neg h0]
 have h3:=(Nat.le_log2 h0).2 h1
 have h4:=(Nat.log2_lt h0).2 h2
 omega
theorem bitsN_limbs {xs:List Nat} {n:Nat} (hok:Ok xs) (_hl:n+1≤xs.length) (hz:val (xs.drop (n+1))=0) (ht:xs.getD n 0≠0):32*n+Lib.bitLen (xs.getD n 0)=bitsN (val xs):=by
 have hx:=hok.get n
 obtain ⟨b1,b2,b3⟩:=Lib.bitLenAux_bounds 64 (xs.getD n 0) (by omega) ht
 have h1:=val_split' xs (n+1)
 rw [hz,Nat.mul_zero,Nat.add_zero,val_take'] at h1
 have h2:=val_take_lt hok n
 obtain ⟨c,hc⟩:∃c,Lib.bitLenAux 64 (xs.getD n 0)=c+1:=⟨Lib.bitLenAux 64 (xs.getD n 0)-1,by omega⟩
 unfold Lib.bitLen
 rw [hc] at b2 b3 ⊢
 rw [Nat.add_sub_cancel] at b2
 generalize xs.getD n 0=y at *
 rw [h1]
 refine (bitsN_eq (b:=32*n+c) ?_ ?_).symm
 ·rw [Nat.pow_add,Nat.pow_mul]
  exact Nat.le_trans (Nat.mul_le_mul_left _ b2) (Nat.le_add_left _ _)
 ·rw [Nat.add_assoc,Nat.pow_add,Nat.pow_mul,show (2:Nat) ^ 32=4294967296 from rfl]
  have h3:=Nat.mul_le_mul_left (4294967296 ^ n) (show y+1≤2 ^ (c+1) from b3)
  rw [Nat.mul_add,Nat.mul_one] at h3
  omega
theorem bits_any (w:World) (v:Value) (xs:List Nat) (h:Arr w v xs) (hn:xs.length≤134217728):
  Calls Tryz.prog 144 #[v] w fun e w'=>e= .returned (.int .i64 (bitsN (val xs):Nat))∧w=w':=by
 have HS:=Lib.hid (size_any w v xs h)
 have hle:=size_le xs
 have hzd:=val_drop_size h.ok
 obtain ⟨hok,A,c,rfl,hc,hm,hcell⟩:=h.open
 rcases Nat.eq_zero_or_pos (size xs) with h0|h0
 ·have HZ:=Lib.hid (bitsN_zero.2 (size_zero h0))
  rw [HZ.out]
  rw [h0] at HS
  clear hm hcell h0 hle hc
  go_enter Tryz.func144,Tryz.ntmps144
  go_wp2_with fail
  refine HS.out.mono ?_
  rintro e w' ⟨rfl,rfl⟩
  go_wp2_with fail
  go_ret
  exact ⟨rfl,rfl⟩
 ·obtain ⟨n,hn1⟩:∃n,size xs=n+1:=⟨size xs-1,by omega⟩
  rw [hn1] at HS hle hzd
  have ht:xs.getD n 0≠0:=by
   intro e
   have h1:=val_split' xs n
   rw [val_drop',e,hzd] at h1
   simp only [Nat.mul_zero,Nat.add_zero] at h1
   have h2:=length_limbs_le (n:=val xs) (k:=n) (by rw [h1];exact val_take_lt hok n)
   rw [←size_eq hok] at h2
   omega
  have HB:=Lib.hid (bitsN_limbs hok hle hzd ht)
  obtain ⟨b,o,rfl,hb,hcell⟩:=hcell (by omega)
  have hx:=hcell n (by omega)
  have hxm:=hok.get n
  clear hcell h0 hzd hn1 hc ht
  obtain ⟨y,hy⟩:∃y,xs.getD n 0=y:=⟨_,rfl⟩
  rw [hy] at hx hxm HB
  clear hy
  have HL:=Lib.hid (Tryz.bits_Len32 (y:Int) w (by omega) (by omega))
  have hbl:=Any.bitLen_le32 (y:Int) (by omega) (by omega)
  rw [Int.toNat_natCast] at HL hbl
  unfold maxLen at hm
  simp only [d32] at hx
  have hn0:(((n:Int)+1) == 0)=false:=by rw [beq_eq_false_iff_ne];omega
  generalize Lib.bitLen y=bl at *
  go_enter Tryz.func144,Tryz.ntmps144
  go_wp2_with fail
  refine HS.out.mono ?_
  rintro e w' ⟨rfl,rfl⟩
  go_wp2_with fail
  refine HL.out.mono ?_
  rintro e w' ⟨rfl,rfl⟩
  go_wp2_with fail
  go_ret
  exact ⟨congrArg (fun z=>Ending.returned (.int .i64 z)) (by rw [←HB.out];simp),rfl⟩
theorem gcd_any (w:World) (v u:Value) (xs ys:List Nat) (h:Arr w v xs) (h':Arr w u ys) (hn:xs.length≤134217728) (hn':ys.length≤134217728):
  Calls Tryz.prog 145 #[v,u] w fun e w'=>∃v',e= .returned v'∧Own w.heap.size w' v' (limbs (Nat.gcd (val xs) (val ys)))∧Ext w w':=by
 have HA:=Lib.hid (trim_any w v xs h (by omega))
 have HB:=Lib.hid (fun W hx=>trim_any W u ys (h'.ext hx) (by omega))
 have hla:(limbs (val xs)).length≤134217728:=Nat.le_trans (length_limbs_val h.ok) hn
 have hlb:(limbs (val ys)).length≤134217728:=Nat.le_trans (length_limbs_val h'.ok) hn'
 clear h h' hn hn'
 generalize val xs=X at *
 generalize val ys=Y at *
 go_enter Tryz.func145,Tryz.ntmps145
 go_wp2_with fail
 refine HA.out.mono ?_
 rintro e w1 ⟨v1,rfl,ho1,hx1⟩
 have HX1:=Lib.hid hx1
 have HO1:=Lib.hid ho1
 obtain ⟨n1,A1,c1,rfl⟩:=ho1.shape
 clear ho1 hx1
 go_wp2_with fail
 refine (HB.out _ HX1.out).mono ?_
 rintro e w2 ⟨v2,rfl,ho2,hx2⟩
 have HO2:=Lib.hid (ho2.mono HX1.out.size)
 have HO1':=Lib.hid (HO1.out.ext hx2)
 have HX2:=Lib.hid (HX1.out.trans hx2)
 obtain ⟨n2,A2,c2,rfl⟩:=ho2.shape
 clear ho2 hx2
 go_wp2_with fail
 go_loopg [0,1] Y (fun gh s0 s1 wr=>∃(g x:Nat) (na:Nat) (Aa:Option Addr) (ca nb:Nat) (Ab:Option Addr) (cb:Nat),gh=g∧s0= .slice Aa na ca∧s1= .slice Ab nb cb∧Own w.heap.size wr s0 (limbs x)∧Own w.heap.size wr s1 (limbs g)∧Nat.gcd x g=Nat.gcd X Y∧(limbs x).length≤134217728∧(limbs g).length≤134217728∧Ext w wr)
 case atStart=>exact ⟨Y,X,n1,A1,c1,n2,A2,c2,rfl,rfl,rfl,HO1'.out,HO2.out,rfl,hla,hlb,HX2.out⟩
 case round=>
  obtain ⟨g,x,na,Aa,ca,nb,Ab,cb,hgg,rfl,rfl,hoa,hob,hg,hlx,hlg,hext⟩:=hrel
  have HGG:=Lib.hid hgg
  clear hgg
  have HG:=Lib.hid hg
  have HXT:=Lib.hid hext
  have HOA:=Lib.hid hoa
  have HOB:=Lib.hid hob
  have hnb:=hob.len
  have hna:=hoa.len
  clear hg hext HA HB HO1 HX1 HO1' HO2 HX2
  rcases Nat.eq_zero_or_pos g with h0|h0
  ·subst h0
   rw [limbs_zero,List.length_nil] at hnb
   subst hnb
   have HV:Hid (Own w.heap.size wr (.slice Aa na ca) (limbs (Nat.gcd X Y))):=Lib.hid (by
    have h1:=HG.out
    rw [Nat.gcd_zero_right] at h1
    rw [←h1]
    exact hoa)
   clear hoa hob hna
   go_wp2_with fail
   go_ret
   exact ⟨_,rfl,HV.out,HXT.out⟩
  ·have hl1:0<nb:=by
    rw [hnb]
    exact List.length_pos_iff.2 (fun e=>by rw [limbs_eq_nil] at e;omega)
   have HD:=Lib.hid (qdivmod_any wr _ _ _ _ hoa.arr hob.arr hlx hlg (by rw [val_limbs];omega))
   rw [val_limbs,val_limbs] at HD
   have hmod:=Nat.mod_lt x h0
   have hlm:=Nat.le_trans (limbs_mono (Nat.le_of_lt hmod)) hlg
   have HG2:=Lib.hid (show Nat.gcd g (x % g)=Nat.gcd X Y by rw [←gcd_step,HG.out])
   have hb0:((nb:Int) != 0)=true:=by rw [bne_iff_ne];omega
   have hb1:((nb:Int) == 0)=false:=by rw [beq_eq_false_iff_ne];omega
   clear hoa hob hna hnb
   go_wp2_with fail
   refine HD.out.mono ?_
   rintro e w3 ⟨v3,u3,rfl,hq3,hr3,hx3⟩
   have HB3:=Lib.hid (HOB.out.ext hx3)
   have HR3:=Lib.hid (hr3.mono HXT.out.size)
   have HX3:=Lib.hid (HXT.out.trans hx3)
   obtain ⟨n3,A3,c3,rfl⟩:=hq3.shape
   obtain ⟨n4,A4,c4,rfl⟩:=hr3.shape
   clear hq3 hr3 hx3
   go_wp2_with fail
   go_roundg (x % g)
   case rel=>exact ⟨x % g,g,nb,Ab,cb,n4,A4,c4,rfl,rfl,rfl,HB3.out,HR3.out,HG2.out,hlg,hlm,HX3.out⟩
   case measure=>rw [HGG.out];exact hmod
end Big
end Go.Proofs.YtaccjdbbkmhanaaGreatDoor
namespace Go.Proofs.YtaccjdbbkmhanaaGreatDoor
namespace Big
open Go.RowKit
def SmallAt (w0 wr:World) (xs:List Nat) (m c k cy:Nat):Prop:=
 ∃ys:List Nat,ys.length=k∧Ok ys∧val ys+4294967296 ^ k*cy=val (xs.take k)*m+c∧
  Blk wr w0.heap.size 129 (cells (ys++List.replicate (xs.length+1-k) 0))∧Ext w0 wr
theorem SmallAt.step {w0 wr:World} {xs ys:List Nat} {m c k q x:Nat} (hk:k<xs.length) (hl:ys.length=k) (hok:Ok ys)
  (hv:val (ys++[(q+x*m) % 4294967296])+4294967296 ^ (k+1)*((q+x*m) / 4294967296)=val (xs.take (k+1))*m+c)
  (hb:Blk wr w0.heap.size 129 (cells (ys++List.replicate (xs.length+1-k) 0))) (he:Ext w0 wr):
  SmallAt w0 (wr.setCell ⟨w0.heap.size,k,none⟩ (d32 ((q+x*m) % 4294967296))) xs m c (k+1) ((q+x*m) / 4294967296):=by
 refine ⟨ys++[(q+x*m) % 4294967296],by simp [hl],hok.snoc (Nat.mod_lt _ (by omega)),hv,?_,he.setCell (Nat.le_refl _) _⟩
 have h1:=hb.set_ k (d32 ((q+x*m) % 4294967296))
 rw [set_cells,show xs.length+1-k=(xs.length-k)+1 by omega] at h1
 have h2:=set_front ys (xs.length-k) ((q+x*m) % 4294967296)
 rw [hl] at h2
 rw [h2] at h1
 rw [show xs.length+1-(k+1)=xs.length-k by omega]
 exact h1
theorem psmall_any (w:World) (v:Value) (xs:List Nat) (m c:Nat) (h:Arr w v xs) (hn:xs.length≤536870912) (hm:m<4294967296) (hc:c<4294967296):
  Calls Tryz.prog 118 #[v,.int .u32 (m:Int),.int .u32 (c:Int)] w fun e w'=>∃v',e= .returned v'∧Own w.heap.size w' v' (limbs (val xs*m+c))∧Ext w w':=by
 have HA:=Lib.hid h
 obtain ⟨hok,A,cap,rfl,hcap,hmx,hcell⟩:=h.open
 have HM:=Lib.hid hmx
 have HC:=Lib.hid hcell
 have hmk:=run_make32_succ xs.length (by omega)
 have HMK:=Lib.hid hmk
 clear h hcell hmx hcap
 go_enter Tryz.func118,Tryz.ntmps118
 go_wp2_with fail
 clear hmk
 go_loopw [8,19] (fun cy i wr=>∃k q:Nat,k≤xs.length∧q<4294967296∧i= .int .i64 k∧cy= .int .u64 q∧SmallAt w wr xs m c k q) (fun _ i _=>xs.length-(intOf i).toNat)
 case atStart=>exact ⟨0,c,Nat.zero_le _,hc,rfl,rfl,[],rfl,ok_nil,by simp [val],Blk.new _ _ _,(Ext.refl w).alloc _⟩
 case round=>
  obtain ⟨k,q,hk,hq,rfl,rfl,ys,hl,hok',hv,hblk,hext⟩:=hrel
  have HV:=Lib.hid hv;clear hv
  have HB:=Lib.hid hblk;clear hblk
  have HL:=Lib.hid hl;clear hl
  by_cases hlt:k<xs.length
  ·obtain ⟨b,o,rfl,hb,hcell⟩:=HC.out (by omega)
   have hx:=(hext.cell hb).trans (hcell k hlt)
   have hst:=HB.out.cell k
   have hfz:=HB.out.frozen k
   rw [get_cells _ _ (by simp [HL.out];omega)] at hst
   clear hcell
   have hxm:=hok.get k
   have HS:=Lib.hid (small_step xs ys k m c q hlt HL.out HV.out)
   have hp:=prod_le hxm hm
   obtain ⟨x,hxe⟩:∃x,xs.getD k 0=x:=⟨_,rfl⟩
   rw [hxe] at hx hxm hp HS
   clear hxe
   have hp':(x:Int)*(m:Int)≤18446744065119617025:=by rw [←Int.natCast_mul];omega
   have hp0:0≤(x:Int)*(m:Int):=by rw [←Int.natCast_mul];omega
   simp only [d32] at hx hst
   go_wp2
   go_round
   case rel=>
    refine ⟨k+1,(q+x*m) / 4294967296,by omega,?_,by go_num,by go_num,?_⟩
    ·exact Nat.div_lt_of_lt_mul (by omega)
    ·exact SmallAt.step hlt HL.out hok' HS.out HB.out hext
   case measure=>simp [intOf];omega
  ·obtain rfl:k=xs.length:=by omega
   have hst:=HB.out.cell xs.length
   have hfz:=HB.out.frozen xs.length
   rw [get_cells _ _ (by simp [HL.out])] at hst
   have hlast:Own w.heap.size (wr.setCell ⟨w.heap.size,xs.length,none⟩ (d32 q)) (.slice (some ⟨w.heap.size,0,none⟩) (xs.length+1) (xs.length+1)) (ys++[q]):=by
    have h1:=HB.out.set_ xs.length (d32 q)
    have h2:=set_front ys 0 q
    rw [HL.out] at h2
    rw [set_cells,show xs.length+1-xs.length=0+1 by omega,h2] at h1
    have h3:=Own.block (B:=w.heap.size) (hok'.snoc hq) (by simpa using h1) (Nat.le_refl _) (by simp [HL.out];omega)
    simpa [HL.out] using h3
   have hval:val (ys++[q])=val xs*m+c:=by
    rw [val_snoc,HL.out,HV.out,List.take_of_length_le (Nat.le_refl _)]
   have HT:=Lib.hid (trim_any _ _ _ hlast.arr (by simp [HL.out];omega))
   rw [hval] at HT
   have HVL:=Lib.hid hval
   have HO:=Lib.hid hlast
   clear hval hlast
   simp only [d32] at hst
   go_wp2_with fail
   refine HT.out.mono ?_
   rintro e w' ⟨v',rfl,ho,hx⟩
   go_wp2_with fail
   go_ret
   have he:Ext w (wr.setCell ⟨w.heap.size,xs.length,none⟩ (d32 q)):=hext.setCell (Nat.le_refl _) _
   exact ⟨_,rfl,ho.mono he.size,he.trans hx⟩
end Big
end Go.Proofs.YtaccjdbbkmhanaaGreatDoor
namespace Go.Proofs.YtaccjdbbkmhanaaGreatDoor
namespace Big
open Go.RowKit
theorem limbs_div (X g:Nat):(limbs (X / g)).length≤(limbs X).length:=limbs_mono (Nat.div_le_self _ _)
def LowPost (X Y:Nat) (w:World) (e:Ending) (w':World):Prop:=
 ∃v' u',e= .returned (.tuple #[v',u',.bool true])∧Own w.heap.size w' v' (limbs (X / Nat.gcd X Y))∧Own w.heap.size w' u' (limbs (Y / Nat.gcd X Y))∧Ext w w'
theorem lowest_any (w:World) (v u:Value) (xs ys:List Nat) (h:Arr w v xs) (h':Arr w u ys) (hn:xs.length≤134217728) (hn':ys.length≤134217728) (hy:val ys≠0):
  Calls Tryz.prog 122 #[v,u] w (LowPost (val xs) (val ys) w):=by
 have HB:=Lib.hid (bits_any w u ys h' hn')
 have hb0:bitsN (val ys)≠0:=fun e=>hy (bitsN_zero.1 e)
 have HG:=Lib.hid (gcd_any w v u xs ys h h' hn hn')
 have hgl:(limbs (Nat.gcd (val xs) (val ys))).length≤134217728:=Nat.le_trans (limbs_mono (Nat.gcd_le_right _ (Nat.pos_of_ne_zero hy))) (Nat.le_trans (length_limbs_val h'.ok) hn')
 have hg0:Nat.gcd (val xs) (val ys)≠0:=fun e=>hy (Nat.gcd_eq_zero_iff.1 e).2
 have HD1:=Lib.hid (fun W z hx a=>qdivmod_any W v z xs (limbs (Nat.gcd (val xs) (val ys))) (h.ext hx) a hn hgl (by rw [val_limbs];exact hg0))
 have HD2:=Lib.hid (fun W z hx a=>qdivmod_any W u z ys (limbs (Nat.gcd (val xs) (val ys))) (h'.ext hx) a hn' hgl (by rw [val_limbs];exact hg0))
 rw [val_limbs] at HD1 HD2
 obtain ⟨nv,Av,cv,rfl⟩:=h.shape
 obtain ⟨nu,Au,cu,rfl⟩:=h'.shape
 generalize val xs=X at *
 generalize val ys=Y at *
 have hbb:((bitsN Y:Int) == 0)=false:=by rw [beq_eq_false_iff_ne];omega
 generalize bitsN Y=bY at *
 clear h h' hn hn' hy hg0 hgl hb0
 go_enter Tryz.func122,Tryz.ntmps122
 go_wp2_with fail
 refine HB.out.mono ?_
 rintro e w1 ⟨rfl,rfl⟩
 go_wp2_with fail
 refine HG.out.mono ?_
 rintro e w1 ⟨v1,rfl,ho1,hx1⟩
 have HX1:=Lib.hid hx1
 have HO1:=Lib.hid ho1
 obtain ⟨n1,A1,c1,rfl⟩:=ho1.shape
 clear ho1 hx1
 go_wp2_with fail
 refine (HD1.out _ _ HX1.out HO1.out.arr).mono ?_
 rintro e w2 ⟨v2,u2,rfl,ho2,hr2,hx2⟩
 have HX2:=Lib.hid (HX1.out.trans hx2)
 have HO2:=Lib.hid (ho2.mono HX1.out.size)
 have HO1':=Lib.hid (HO1.out.ext hx2)
 obtain ⟨n2,A2,c2,rfl⟩:=ho2.shape
 obtain ⟨n2',A2',c2',rfl⟩:=hr2.shape
 clear ho2 hr2 hx2
 go_wp2_with fail
 refine (HD2.out _ _ HX2.out HO1'.out.arr).mono ?_
 rintro e w3 ⟨v3,u3,rfl,ho3,hr3,hx3⟩
 have HX3:=Lib.hid (HX2.out.trans hx3)
 have HO3:=Lib.hid (ho3.mono HX2.out.size)
 have HO2':=Lib.hid (HO2.out.ext hx3)
 obtain ⟨n3,A3,c3,rfl⟩:=ho3.shape
 obtain ⟨n3',A3',c3',rfl⟩:=hr3.shape
 clear ho3 hr3 hx3
 go_wp2_with fail
 go_ret3
 exact ⟨_,_,rfl,HO2'.out,HO3.out,HX3.out⟩
def ScaledPost (xs:List Nat) (m n:Nat) (w:World) (e:Ending) (w':World):Prop:=
 ∃v' zs,e= .returned v'∧Arr w' v' zs∧val zs=val xs*m ^ n∧zs.length≤xs.length+n∧Ext w w'
def ScaledAt (w wr:World) (xs:List Nat) (m n k:Nat) (v:Value):Prop:=
 ∃zs,Arr wr v zs∧val zs*m ^ k=val xs*m ^ n∧zs.length+k≤xs.length+n∧Ext w wr
theorem ScaledAt.shape {w wr:World} {xs:List Nat} {m n k:Nat} {v:Value} (h:ScaledAt w wr xs m n k v):∃n A c,v= .slice A n c:=by
 obtain ⟨zs,h1,_⟩:=h
 exact h1.shape
theorem ScaledAt.step {w wr w':World} {xs zs:List Nat} {m n k j a:Nat} {v:Value} (hk:k=j+a) (ha:1≤a) (hv:val zs*m ^ k=val xs*m ^ n) (hl:zs.length+k≤xs.length+n) (hx:Ext w wr) (hok:Ok zs)
  (ho:Own wr.heap.size w' v (limbs (val zs*m ^ a+0))) (hm:m ^ a<4294967296) (hx':Ext wr w'):ScaledAt w w' xs m n j v:=by
 refine ⟨_,ho.arr,?_,?_,hx.trans hx'⟩
 ·rw [val_limbs,Nat.add_zero,Nat.mul_assoc,←Nat.pow_add,Nat.add_comm a j,←hk,hv]
 ·have:=length_limbs_mul hok hm (c:=0) (by omega)
  omega
theorem scaled_10 (w:World) (v:Value) (xs:List Nat) (n:Nat) (h:Arr w v xs) (hn:xs.length≤67108864) (hn':n≤67108864):
  Calls Tryz.prog 99 #[v,.int .u32 10,.int .i64 (n:Int)] w (ScaledPost xs 10 n w):=by
 have HA:=Lib.hid h
 obtain ⟨nv,Av,cv,rfl⟩:=h.shape
 clear h
 go_enter Tryz.func99,Tryz.ntmps99
 go_wp2_with fail
 go_loopw [0,2] (fun s0 s2 wr=>∃k:Nat,k≤n∧s2= .int .i64 (k:Int)∧ScaledAt w wr xs 10 n k s0) (fun _ s2 _=>(intOf s2).toNat)
 case atStart=>exact ⟨n,Nat.le_refl _,rfl,xs,HA.out,rfl,Nat.le_refl _,Ext.refl _⟩
 case round=>
  obtain ⟨k,hk,rfl,hat⟩:=hrel
  obtain ⟨ns,As,cs,rfl⟩:=hat.shape
  have HAT:=Lib.hid hat
  obtain ⟨zs,ha,hv,hl,hx⟩:=hat
  have hzl:zs.length≤536870912:=by omega
  by_cases h9:9≤k
  ·obtain ⟨j,rfl⟩:∃j,k=j+9:=⟨k-9,by omega⟩
   have HP:=Lib.hid (psmall_any wr _ zs 1000000000 0 ha hzl (by decide) (by decide))
   rw [show ((1000000000:Nat):Int)=1000000000 from rfl,show ((0:Nat):Int)=0 from rfl] at HP
   have HST:=Lib.hid (fun w' v' ho hx'=>ScaledAt.step (w':=w') (v:=v') (j:=j) (a:=9) rfl (by omega) hv hl hx ha.ok ho (by decide) hx')
   rw [show (10:Nat) ^ 9=1000000000 from rfl] at HST
   clear ha hv hl hx
   go_wp2_with fail
   refine HP.out.mono ?_
   rintro e w2 ⟨v2,rfl,ho2,hx2⟩
   have HS2:=Lib.hid (HST.out _ _ ho2 hx2)
   obtain ⟨n2,A2,c2,rfl⟩:=ho2.shape
   clear ho2 hx2
   go_wp2_with fail
   go_roundw
   case rel=>exact ⟨j,by omega,by go_num,HS2.out⟩
   case measure=>simp [intOf];omega
  ·clear ha hv hl hx hzl
   go_wp2_with fail
   go_loopw [0,2] (fun s0 s2 wr=>∃k:Nat,k≤n∧s2= .int .i64 (k:Int)∧ScaledAt w wr xs 10 n k s0) (fun _ s2 _=>(intOf s2).toNat)
   case atStart=>exact ⟨k,hk,rfl,HAT.out⟩
   case round=>
    clear hk h9 HAT
    obtain ⟨k,hk,rfl,hat⟩:=hrel
    obtain ⟨ns,As,cs,rfl⟩:=hat.shape
    have HAT:=Lib.hid hat
    obtain ⟨zs,ha,hv,hl,hx⟩:=hat
    have hzl:zs.length≤536870912:=by omega
    rcases Nat.eq_zero_or_pos k with h0|h0
    ·subst h0
     have HF:Hid (ScaledPost xs 10 n w (.returned (.slice As ns cs)) wr):=Lib.hid ⟨_,zs,rfl,ha,by rw [←hv];simp,by omega,hx⟩
     clear ha hv hl hx hzl
     go_wp2_with fail
     go_ret
     exact HF.out
    ·obtain ⟨j,rfl⟩:∃j,k=j+1:=⟨k-1,by omega⟩
     have HP:=Lib.hid (psmall_any wr _ zs 10 0 ha hzl (by decide) (by decide))
     rw [show ((10:Nat):Int)=10 from rfl,show ((0:Nat):Int)=0 from rfl] at HP
     have HST:=Lib.hid (fun w' v' ho hx'=>ScaledAt.step (w':=w') (v:=v') (j:=j) (a:=1) rfl (by omega) hv hl hx ha.ok ho (by decide) hx')
     rw [Nat.pow_one] at HST
     clear ha hv hl hx
     go_wp2_with fail
     refine HP.out.mono ?_
     rintro e w2 ⟨v2,rfl,ho2,hx2⟩
     have HS2:=Lib.hid (HST.out _ _ ho2 hx2)
     obtain ⟨n2,A2,c2,rfl⟩:=ho2.shape
     clear ho2 hx2
     go_wp2_with fail
     go_roundw
     case rel=>exact ⟨j,by omega,by go_num,HS2.out⟩
     case measure=>simp [intOf]
end Big
end Go.Proofs.YtaccjdbbkmhanaaGreatDoor
namespace Go.Proofs.YtaccjdbbkmhanaaGreatDoor
namespace Big
open Go.RowKit
set_option maxRecDepth 100000 in
theorem lowestR_any (w:World) (v u:Value) (z:Int) (ys:List Nat) (h:ArrInt w v z) (h':Arr w u ys) (hn:(limbs z.natAbs).length≤134217728) (hn':ys.length≤134217728) (hy:val ys≠0):
  Calls Tryz.prog 97 #[v,u] w fun e w'=>∃v',e= .returned v'∧IsRat w.heap.size w' v' (lowN z (val ys)) (lowD z (val ys))∧Ext w w':=by
 have HA:=Lib.hid h
 have HB:=Lib.hid h'
 obtain ⟨b,n,A,c,rfl⟩:=h.shape
 have HL:=Lib.hid (fun W hx=>lowest_any W (.slice A n c) u (limbs z.natAbs) ys (h.mag.ext hx) (h'.ext hx) hn hn' hy)
 rw [val_limbs] at HL
 have HI:=Lib.hid (fun W m a=>inat_any W b m (limbs (z.natAbs / Nat.gcd z.natAbs (val ys))) a (Nat.le_trans (limbs_div _ _) (by omega)))
 rw [val_limbs] at HI
 have HS:=Lib.hid h.sign
 clear h h'
 go_enter Tryz.func97,Tryz.ntmps97
 go_wp2_with fail
 have hb0:=(Blk.new w 115 #[Value.bool b,Value.slice A n c]).alloc (.cells #[Value.bool false,Value.slice none 0 0,Value.slice none 0 0] 117)
 have hb1:=Blk.new (w.alloc (.cells #[Value.bool b,Value.slice A n c] 115)) 117 #[Value.bool false,Value.slice none 0 0,Value.slice none 0 0]
 have hxo:=((Ext.refl w).alloc (.cells #[Value.bool b,Value.slice A n c] 115)).alloc (.cells #[Value.bool false,Value.slice none 0 0,Value.slice none 0 0] 117)
 have hszo:w.heap.size+1<((w.alloc (.cells #[Value.bool b,Value.slice A n c] 115)).alloc (.cells #[Value.bool false,Value.slice none 0 0,Value.slice none 0 0] 117)).heap.size:=by simp
 simp only [World.size_alloc] at hb1
 generalize (w.alloc (.cells #[Value.bool b,Value.slice A n c] 115)).alloc (.cells #[Value.bool false,Value.slice none 0 0,Value.slice none 0 0] 117)=wo at *
 refine (HL.out _ hxo).mono ?_
 rintro e w1 ⟨v1,u1,rfl,ho1,hr1,hx1⟩
 have hk0:=hb0.ext hx1
 have hk1:=hb1.ext hx1
 have HO1:=Lib.hid ho1
 have HR1:=Lib.hid hr1
 obtain ⟨n1,A1,c1,rfl⟩:=ho1.shape
 obtain ⟨n2,A2,c2,rfl⟩:=hr1.shape
 obtain ⟨h0,h1,_,_,_⟩:=hk0.two
 have HK1:=Lib.hid hk1
 have HX1:=Lib.hid (hxo.trans hx1)
 have HSZ:=Lib.hid hx1.size
 clear hb0 hb1 hx1 ho1 hr1 hk0 hk1 hxo
 go_wp2_with fail
 refine (HI.out _ _ HO1.out.arr).mono ?_
 rintro e w2 ⟨v2,rfl,hi2,hx2⟩
 have HI2:=Lib.hid hi2
 have HR2:=Lib.hid (HR1.out.ext hx2)
 have hk1:=HK1.out.ext hx2
 obtain ⟨b3,n3,A3,c3,rfl⟩:=hi2.shape
 obtain ⟨k0,k1,k2,f0,f1,f2,hgz⟩:=hk1.three
 have HX2:=Lib.hid (HX1.out.trans hx2)
 have HK2:=Lib.hid hk1
 clear hi2 hx2 hk1
 go_wp2_with fail
 obtain ⟨hr0,hr1,hr2⟩:=three_set HK2.out (.bool b3) (.slice A3 n3 c3) (.slice A2 n2 c2)
 refine bodyPost_ret (v:= .agg #[.bool b3,.slice A3 n3 c3,.slice A2 n2 c2]) (by simp [results,Tryz.results97,go_sem,hr0,hr1,hr2]) rfl ?_
 have hfin:IsRat wo.heap.size w2 (.agg #[.bool b3,.slice A3 n3 c3,.slice A2 n2 c2]) (lowN z (val ys)) (lowD z (val ys)):=IsRat.mk (by
  have h1:=HI2.out.mono HSZ.out
  rw [HS.out] at h1
  exact h1) HR2.out
 exact ⟨_,rfl,hfin.put hszo (by omega),((HX2.out.setCell (Nat.le_succ _) _).setCell (Nat.le_succ _) _).setCell (Nat.le_succ _) _⟩
end Big
end Go.Proofs.YtaccjdbbkmhanaaGreatDoor
