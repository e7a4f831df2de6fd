import Derived.Test.YtaccjdbbkmhanaaGreatDoorM5
import Derived.Test.YtaccjdbbkmhanaaGreatDoorM6
import Derived.Test.YtaccjdbbkmhanaaGreatDoorM1
namespace Go.Proofs.YtaccjdbbkmhanaaGreatDoor
namespace Big
open Go.RowKit
theorem rsmall_any (w:World) (v:Value) (xs:List Nat) (m c:Nat) (h:Arr w v xs) (hn:xs.length≤536870912) (hm:m<4294967296) (hc:c<4294967296):
  Calls Tryz.prog 87 #[v,.int .u32 (m:Int),.int .u32 (c:Int)] w fun e w'=>∃v',e= .returned v'∧Own w.heap.size w' v' (limbs (val xs*m+c))∧Ext w w':=by
 have HA:=Lib.hid h
 obtain ⟨hok,A,cap,rfl,hcap,hmx,hcell⟩:=h.open
 have HC:=Lib.hid hcell
 clear h hcell hmx hcap
 go_enter Tryz.func87,Tryz.ntmps87
 go_wp2_with fail
 go_loopw [7,8,15] (fun out cy i wr=>∃(k q:Nat) (ys:List Nat),k≤xs.length∧q<4294967296∧i= .int .i64 k∧cy= .int .u64 q∧ys.length=k∧
   val ys+4294967296 ^ k*q=val (xs.take k)*m+c∧Own w.heap.size wr out ys∧Ext w wr) (fun _ _ i _=>xs.length-(intOf i).toNat)
 case atStart=>exact ⟨0,c,[],Nat.zero_le _,hc,rfl,rfl,rfl,by simp [val],Own.none_ _ _,Ext.refl w⟩
 case round=>
  obtain ⟨k,q,ys,hk,hq,rfl,rfl,hl,hv,hown,hext⟩:=hrel
  have HV:=Lib.hid hv;clear hv
  have HL:=Lib.hid hl;clear hl
  have hwr:=hext.size
  by_cases hlt:k<xs.length
  ·obtain ⟨b,o,rfl,hb,hcell⟩:=HC.out (by omega)
   have hx:=(hext.cell hb).trans (hcell k hlt)
   clear hcell
   have hxm:=hok.get k
   have HS:=Lib.hid (small_step xs ys k m c q hlt HL.out HV.out)
   have hp:=prod_le hxm hm
   obtain ⟨x,hxe⟩:∃x,xs.getD k 0=x:=⟨_,rfl⟩
   rw [hxe] at hx hxm hp HS
   clear hxe
   have hp':(x:Int)*(m:Int)≤18446744065119617025:=by rw [←Int.natCast_mul];omega
   have hp0:0≤(x:Int)*(m:Int):=by rw [←Int.natCast_mul];omega
   have hy:(q+x*m) % 4294967296<4294967296:=Nat.mod_lt _ (by omega)
   have HY:=Lib.hid hy;clear hy
   have HLIM:=Lib.hid (show ys.length+[(q+x*m) % 4294967296].length≤2147483648 by simp [HL.out];omega)
   simp only [d32] at hx
   go_wp2_with (at_builtin;go_must (refine wpList_append32 rfl _ _ rfl rfl (hown.ext ((Ext.refl _).alloc _)) rfl (Arr.fresh1 _ ((q+x*m) % 4294967296) HY.out) HLIM.out (by simp;omega) ?_;intro v' w' hown' hgr hb))
   go_roundw
   case rel=>
    refine ⟨k+1,(q+x*m) / 4294967296,_,by omega,Nat.div_lt_of_lt_mul (by omega),by go_num,by go_num,by simp [HL.out],HS.out,hown',(hext.alloc _).more hb⟩
   case measure=>simp [intOf];omega
  ·obtain rfl:k=xs.length:=by omega
   have HLIM:=Lib.hid (show ys.length+[q].length≤2147483648 by simp [HL.out];omega)
   have hval:val (ys++[q])=val xs*m+c:=by
    rw [val_snoc,HL.out,HV.out,List.take_of_length_le (Nat.le_refl _)]
   have HVL:=Lib.hid hval
   clear hval
   go_wp2_with (at_builtin;go_must (refine wpList_append32 rfl _ _ rfl rfl (hown.ext ((Ext.refl _).alloc _)) rfl (Arr.fresh1 _ q hq) HLIM.out (by simp;omega) ?_;intro v' w' hown' hgr hb))
   have HT:=Lib.hid (rtrim_any _ _ _ hown'.arr (by simp [HL.out];omega))
   rw [HVL.out] at HT
   refine HT.out.mono ?_
   rintro e w2 ⟨v2,rfl,ho,hx⟩
   go_wp2_with fail
   go_ret
   have he:Ext w w':=(hext.alloc _).more hb
   exact ⟨_,rfl,ho.mono he.size,he.trans hx⟩
theorem rof_any (w:World) (n:Nat) (h:n<18446744073709551616):
  Calls Tryz.prog 111 #[.int .u64 (n:Int)] w fun e w'=>∃v',e= .returned v'∧Own w.heap.size w' v' (limbs n)∧Ext w w':=by
 have HN:=Lib.hid h;clear h
 go_enter Tryz.func111,Tryz.ntmps111
 go_wp2_with fail
 have h1:n % 4294967296<4294967296:=by omega
 have h2:n / 4294967296<4294967296:=by have:=HN.out;omega
 have HT:=rtrim_any _ _ _ (Own.fresh2 w (n % 4294967296) (n / 4294967296) h1 h2).arr (by simp)
 have hv:val [n % 4294967296,n / 4294967296]=n:=by simp [val];omega
 rw [hv] at HT
 have e1:Value.int .u32 ((n:Int) % 4294967296)=d32 (n % 4294967296):=rfl
 have e2:Value.int .u32 ((n:Int) / 4294967296 % 4294967296)=d32 (n / 4294967296):=congrArg (Value.int .u32) (by have:=HN.out;omega)
 rw [e1,e2]
 clear e1 e2 hv
 refine HT.mono ?_
 rintro e w2 ⟨v2,rfl,ho,hx⟩
 go_wp2_with fail
 go_ret
 have he:Ext w (w.alloc (.cells #[d32 (n % 4294967296),d32 (n / 4294967296)] 129)):=(Ext.refl w).alloc _
 exact ⟨_,rfl,ho.mono he.size,he.trans hx⟩
theorem of_any (w:World) (n:Nat) (h:n<18446744073709551616):
  Calls Tryz.prog 100 #[.int .u64 (n:Int)] w fun e w'=>∃v',e= .returned v'∧Own w.heap.size w' v' (limbs n)∧Ext w w':=by
 have HN:=Lib.hid h;clear h
 go_enter Tryz.func100,Tryz.ntmps100
 go_wp2_with fail
 have h1:n % 4294967296<4294967296:=by omega
 have h2:n / 4294967296<4294967296:=by have:=HN.out;omega
 have HT:=trim_any _ _ _ (Own.fresh2 w (n % 4294967296) (n / 4294967296) h1 h2).arr (by simp)
 have hv:val [n % 4294967296,n / 4294967296]=n:=by simp [val];omega
 rw [hv] at HT
 have e1:Value.int .u32 ((n:Int) % 4294967296)=d32 (n % 4294967296):=rfl
 have e2:Value.int .u32 ((n:Int) / 4294967296 % 4294967296)=d32 (n / 4294967296):=congrArg (Value.int .u32) (by have:=HN.out;omega)
 rw [e1,e2]
 clear e1 e2 hv
 refine HT.mono ?_
 rintro e w2 ⟨v2,rfl,ho,hx⟩
 go_wp2_with fail
 go_ret
 have he:Ext w (w.alloc (.cells #[d32 (n % 4294967296),d32 (n / 4294967296)] 129)):=(Ext.refl w).alloc _
 exact ⟨_,rfl,ho.mono he.size,he.trans hx⟩
end Big
end Go.Proofs.YtaccjdbbkmhanaaGreatDoor
namespace Go.Proofs.YtaccjdbbkmhanaaGreatDoor
namespace Big
open Go.RowKit
theorem rsub_lt (w:World) (v u:Value) (xs ys:List Nat) (h:Arr w v xs) (h':Arr w u ys) (hn:xs.length≤1073741824) (hn':ys.length≤1073741824) (hlt:val xs<val ys):
  Calls Tryz.prog 185 #[v,u] w fun e w'=>e= .returned (.tuple #[.slice none 0 0,.bool false])∧w=w':=by
 have HC:=rcmp_any w v u xs ys h h' hn hn'
 rw [cmpI_lt hlt] at HC
 have HC:=Lib.hid HC
 clear h h' hlt
 go_enter Tryz.func185,Tryz.ntmps185
 go_wp2_with fail
 refine HC.out.mono ?_;rintro e w' ⟨rfl,rfl⟩
 go_wp2_with fail
 go_ret2
 exact ⟨rfl,rfl⟩
theorem rsub_ge (w:World) (v u:Value) (xs ys:List Nat) (h:Arr w v xs) (h':Arr w u ys) (hn:xs.length≤536870912) (hn':ys.length≤1073741824) (hle:val ys≤val xs):
  Calls Tryz.prog 185 #[v,u] w fun e w'=>∃v',e= .returned (.tuple #[v',.bool true])∧Own w.heap.size w' v' (limbs (val xs-val ys))∧Ext w w':=by
 have HC:=Lib.hid (rcmp_any w v u xs ys h h' (by omega) hn')
 have HA:=Lib.hid h
 have HB:=Lib.hid h'
 obtain ⟨hok,A,c,rfl,hc,hm,hcell⟩:=h.open
 obtain ⟨hok',A',c',rfl,hc',hm',hcell'⟩:=h'.open
 have hcm:¬cmpI (val xs) (val ys)<0:=by rw [cmpI_neg];omega
 have HLE:=Lib.hid hle
 clear h h' hcell hcell' hm hm' hc hc' hle
 generalize cmpI (val xs) (val ys)=cc at HC hcm
 go_enter Tryz.func185,Tryz.ntmps185
 go_wp2_with fail
 refine HC.out.mono ?_;rintro e w' ⟨rfl,rfl⟩
 go_wp2_with fail
 go_loopw [6,7,8] (fun out cy i wr=>∃(k q:Nat) (zs:List Nat),k≤xs.length∧q≤1∧i= .int .i64 k∧cy= .int .u64 q∧zs.length=k∧
   val (xs.take k)+4294967296 ^ k*q=val zs+val (ys.take k)∧Own w.heap.size wr out zs∧Ext w wr) (fun _ _ i _=>xs.length-(intOf i).toNat)
 case atStart=>exact ⟨0,0,[],Nat.zero_le _,by omega,rfl,rfl,rfl,by simp [val],Own.none_ _ _,Ext.refl w⟩
 case round=>
  obtain ⟨k,q,zs,hk,hq,rfl,rfl,hl,hv,hown,hext⟩:=hrel
  have HV:=Lib.hid hv;clear hv
  have HL:=Lib.hid hl;clear hl
  have hwr:=hext.size
  by_cases hlt:k<xs.length
  ·have HX:=Lib.hid (rat_any wr _ xs (k:Int) (HA.out.ext hext) (by omega))
   have HY:=Lib.hid (rat_any wr _ ys (k:Int) (HB.out.ext hext) (by omega))
   rw [Int.toNat_natCast] at HX HY
   have hxm:=hok.get k
   have hym:=hok'.get k
   have HS:=Lib.hid (fun z c' h=> @sub_step xs ys zs k q z c' HL.out HV.out h)
   obtain ⟨x,hxe⟩:∃x,xs.getD k 0=x:=⟨_,rfl⟩
   obtain ⟨y,hye⟩:∃y,ys.getD k 0=y:=⟨_,rfl⟩
   rw [hxe] at HX HS hxm
   rw [hye] at HY HS hym
   clear hxe hye
   have HLIM:=Lib.hid (show ∀z:Nat,zs.length+[z].length≤2147483648 from fun z=>by simp [HL.out];omega)
   by_cases hb:x<y+q
   ·obtain ⟨z,hz,hzl⟩:∃z,x+4294967296*1=z+y+q∧z<4294967296:=⟨x+4294967296-(y+q),by omega,by omega⟩
    have HZ:=Lib.hid hz;clear hz
    go_wp2_with fail
    refine HX.out.mono ?_;rintro e w' ⟨rfl,rfl⟩
    go_wp2_with fail
    refine HY.out.mono ?_;rintro e w' ⟨rfl,rfl⟩
    go_wp2_with (at_builtin;go_must (refine wpList_append32 rfl _ _ rfl rfl (hown.ext ((Ext.refl _).alloc _)) rfl (Arr.fresh1' _ _ z (by have:=HZ.out;omega) hzl) (HLIM.out z) (by simp;omega) ?_;intro v' w' hown' hgr hb))
    go_roundw
    case rel=>exact ⟨k+1,1,_,by omega,by omega,by go_num,rfl,by simp [HL.out],HS.out z 1 HZ.out,hown',(hext.alloc _).more hb⟩
    case measure=>simp [intOf];omega
   ·obtain ⟨z,hz,hzl⟩:∃z,x+4294967296*0=z+y+q∧z<4294967296:=⟨x-(y+q),by omega,by omega⟩
    have HZ:=Lib.hid hz;clear hz
    go_wp2_with fail
    refine HX.out.mono ?_;rintro e w' ⟨rfl,rfl⟩
    go_wp2_with fail
    refine HY.out.mono ?_;rintro e w' ⟨rfl,rfl⟩
    go_wp2_with (at_builtin;go_must (refine wpList_append32 rfl _ _ rfl rfl (hown.ext ((Ext.refl _).alloc _)) rfl (Arr.fresh1' _ _ z (by have:=HZ.out;omega) hzl) (HLIM.out z) (by simp;omega) ?_;intro v' w' hown' hgr hb))
    go_roundw
    case rel=>exact ⟨k+1,0,_,by omega,by omega,by go_num,rfl,by simp [HL.out],HS.out z 0 HZ.out,hown',(hext.alloc _).more hb⟩
    case measure=>simp [intOf];omega
  ·obtain rfl:k=xs.length:=by omega
   have hval:=sub_end hok hown.ok (.inl (List.drop_eq_nil_of_le (Nat.le_refl _))) HL.out HLE.out HV.out
   have HT:=rtrim_any _ _ _ hown.arr (by rw [HL.out];omega)
   rw [hval] at HT
   have HT:=Lib.hid HT
   clear hval
   go_wp2_with fail
   refine HT.out.mono ?_
   rintro e w2 ⟨v2,rfl,ho,hx⟩
   go_wp2_with fail
   go_ret2
   exact ⟨_,rfl,ho.mono hext.size,hext.trans hx⟩
theorem rless_any (w:World) (v u:Value) (xs ys:List Nat) (h:Arr w v xs) (h':Arr w u ys) (hn:xs.length≤536870912) (hn':ys.length≤1073741824):
  Calls Tryz.prog 183 #[v,u] w fun e w'=>∃v',e= .returned v'∧Own w.heap.size w' v' (limbs (val xs-val ys))∧Ext w w':=by
 rcases Nat.lt_or_ge (val xs) (val ys) with hlt|hle
 ·have HS:=Lib.hid (rsub_lt w v u xs ys h h' (by omega) hn' hlt)
  have h0:val xs-val ys=0:=by omega
  rw [h0]
  clear h h' hlt h0
  go_enter Tryz.func183,Tryz.ntmps183
  go_wp2_with fail
  refine HS.out.mono ?_;rintro e w' ⟨rfl,rfl⟩
  go_wp2_with fail
  go_ret
  exact ⟨_,rfl,Own.none_ _ _,Ext.refl _⟩
 ·have HS:=Lib.hid (rsub_ge w v u xs ys h h' hn hn' hle)
  clear h h' hle
  go_enter Tryz.func183,Tryz.ntmps183
  go_wp2_with fail
  refine HS.out.mono ?_;rintro e w' ⟨v',rfl,ho,hx⟩
  go_wp2_with fail
  go_ret
  exact ⟨_,rfl,ho,hx⟩
end Big
end Go.Proofs.YtaccjdbbkmhanaaGreatDoor
namespace Go.Proofs.YtaccjdbbkmhanaaGreatDoor
namespace Big
open Go.RowKit
theorem fits_any (w:World) (v u:Value) (xs ys:List Nat) (h:Arr w v xs) (h':Arr w u ys) (hn:xs.length≤268435456) (hn':ys.length≤268435456) (hlt:val xs<val ys*4294967296):
  Calls Tryz.prog 182 #[v,u] w fun e w'=>e= .returned (.int .u32 ((val xs / val ys:Nat):Int))∧Ext w w':=by
 have HA:=Lib.hid h
 have HB:=Lib.hid h'
 have HLT:=Lib.hid hlt
 have hok:=h.ok
 have hok':=h'.ok
 clear h h' hlt
 go_enter Tryz.func182,Tryz.ntmps182
 go_wp2_with fail
 go_loopw [5,6] (fun lo hi wr=>∃l k:Nat,l≤k∧k≤4294967295∧lo= .int .u64 l∧hi= .int .u64 k∧val ys*l≤val xs∧val xs<val ys*(k+1)∧Ext w wr) (fun lo hi _=>(intOf hi-intOf lo).toNat)
 case atStart=>exact ⟨0,4294967295,by omega,by omega,rfl,rfl,by omega,HLT.out,Ext.refl w⟩
 case round=>
  obtain ⟨l,k,hlk,hk,rfl,rfl,h1,h2,hext⟩:=hrel
  have H1:=Lib.hid h1;clear h1
  have H2:=Lib.hid h2;clear h2
  by_cases hlt:l<k
  ·obtain ⟨m,hm⟩:∃m,(l+k+1) / 2=m:=⟨_,rfl⟩
   have hm1:l<m:=by omega
   have hm2:m≤k:=by omega
   have hm3:m<4294967296:=by omega
   have HM:=Lib.hid (show ((l:Int)+(k:Int)+1) / 2=(m:Int) by omega)
   have hM:=HM.out
   clear hm
   have HS:=Lib.hid (rsmall_any wr u ys m 0 (HB.out.ext hext) (by omega) hm3 (by omega))
   have hlen:=length_limbs_mul hok' hm3 (show 0<4294967296 by omega)
   have HLEN:=Lib.hid (show (limbs (val ys*m+0)).length≤1073741824 by omega)
   clear hlen
   rw [show ((0:Nat):Int)=0 from rfl] at HS
   go_wp2_with fail
   refine HS.out.mono ?_
   rintro e w1 ⟨v1,rfl,ho,hx1⟩
   go_wp2_with fail
   have HCM:=rcmp_any w1 v1 v _ xs ho.arr (HA.out.ext (hext.trans hx1)) HLEN.out (by omega)
   rw [val_limbs,Nat.add_zero] at HCM
   by_cases hc:val ys*m≤val xs
   ·have hcm:cmpI (val ys*m) (val xs)≤0:=by unfold cmpI;split<;>(try split)<;>omega
    have HC:=Lib.hid hc;clear hc
    have HCM:=Lib.hid HCM
    generalize cmpI (val ys*m) (val xs)=cc at HCM hcm
    refine HCM.out.mono ?_
    rintro e w2 ⟨rfl,rfl⟩
    go_wp2_with fail
    go_roundw
    case rel=>exact ⟨m,k,hm2,hk,by first|rfl|exact congrArg (Value.int .u64) HM.out,rfl,HC.out,H2.out,hext.trans hx1⟩
    case measure=>simp [intOf];have:=HM.out;omega
   ·have hcm:¬cmpI (val ys*m) (val xs)≤0:=by unfold cmpI;split<;>(try split)<;>omega
    have hc2:val xs<val ys*(m-1+1):=by rw [Nat.sub_add_cancel (by omega)];omega
    have HC:=Lib.hid hc2;clear hc hc2
    have HCM:=Lib.hid HCM
    generalize cmpI (val ys*m) (val xs)=cc at HCM hcm
    refine HCM.out.mono ?_
    rintro e w2 ⟨rfl,rfl⟩
    go_wp2_with fail
    go_roundw
    case rel=>exact ⟨l,m-1,by omega,by omega,rfl,congrArg (Value.int .u64) (by have:=HM.out;omega),H1.out,HC.out,hext.trans hx1⟩
    case measure=>simp [intOf];have:=HM.out;omega
  ·obtain rfl:k=l:=by omega
   have he:=bisect_end H1.out H2.out
   have HE:=Lib.hid he;clear he
   go_wp2_with fail
   go_ret
   exact ⟨congrArg (fun z:Nat=>Ending.returned (.int .u32 (z:Int))) HE.out,hext⟩
end Big
end Go.Proofs.YtaccjdbbkmhanaaGreatDoor
namespace Go.Proofs.YtaccjdbbkmhanaaGreatDoor
namespace Big
open Go.RowKit
def DivAt (w0 wr:World) (rv:Value) (xs:List Nat) (b k r:Nat):Prop:=
 ∃qs:List Nat,k+qs.length=xs.length∧Ok qs∧val qs*b+r=val (xs.drop k)∧
  Blk wr w0.heap.size 129 (cells (List.replicate k 0++qs))∧Arr wr rv (limbs r)∧Ext w0 wr
theorem rdivmod_any (w:World) (v u:Value) (xs ys:List Nat) (h:Arr w v xs) (h':Arr w u ys) (hn:xs.length≤134217728) (hn':ys.length≤134217728) (hy:0<val ys):
  Calls Tryz.prog 173 #[v,u] w fun e w'=>∃v' u',e= .returned (.tuple #[v',u',.bool true])∧Own w.heap.size w' v' (limbs (val xs / val ys))∧Arr w' u' (limbs (val xs % val ys))∧Ext w w':=by
 have HA:=Lib.hid h
 have HB:=Lib.hid h'
 obtain ⟨hok,A,c,rfl,hc,hm,hcell⟩:=h.open
 obtain ⟨hok',A',c',rfl,hc',hm',hcell'⟩:=h'.open
 have HC:=Lib.hid hcell
 have hl0:0<ys.length:=by
  rcases Nat.eq_zero_or_pos ys.length with h0|h0
  ·have:=List.eq_nil_of_length_eq_zero h0;subst this;simp [val] at hy
  ·exact h0
 have hlb:((ys.length:Int) == 0)=false:=by rw [beq_eq_false_iff_ne];omega
 have hmk:=run_make32 xs.length (by omega)
 clear h h' hcell hcell' hm hm' hc hc'
 go_enter Tryz.func173,Tryz.ntmps173
 go_wp2_with fail
 clear hmk
 go_loopw [8,9] (fun rv i wr=>∃k r:Nat,k≤xs.length∧r<val ys∧i= .int .i64 ((k:Int)-1)∧DivAt w wr rv xs (val ys) k r) (fun _ i _=>(intOf i+1).toNat)
 case atStart=>exact ⟨xs.length,0,Nat.le_refl _,hy,rfl,[],rfl,ok_nil,by simp [val],by simpa [zeros_cells] using Blk.new w 129 (zeros xs.length),Arr.none_ _,(Ext.refl w).alloc _⟩
 case round=>
  obtain ⟨k,r,hk,hr,rfl,qs,hl,hokq,hv,hblk,har,hext⟩:=hrel
  have HV:=Lib.hid hv;clear hv
  have HBK:=Lib.hid hblk;clear hblk
  have HL:=Lib.hid hl;clear hl
  have HR:=Lib.hid hr;clear hr
  have HY:=Lib.hid hy;clear hy
  rcases Nat.eq_zero_or_pos k with h0|h0
  ·subst h0
   obtain ⟨hq1,hq2⟩:=quo_end HR.out (by simpa using HV.out)
   have hlen:qs.length=xs.length:=by simpa using HL.out
   have hlast:Own w.heap.size wr (.slice (some ⟨w.heap.size,0,none⟩) xs.length xs.length) qs:=by
    have h3:=Own.block (B:=w.heap.size) hokq (by simpa using HBK.out) (Nat.le_refl _) (by omega)
    rwa [hlen] at h3
   have HT:=Lib.hid (rtrim_any _ _ _ hlast.arr (by omega))
   rw [hq1] at HT
   rw [hq2] at har
   clear hq1 hq2 hlast hlen
   go_wp2_with fail
   refine HT.out.mono ?_
   rintro e w' ⟨v',rfl,ho,hx⟩
   go_wp2_with fail
   go_ret3
   exact ⟨_,_,rfl,ho.mono hext.size,har.ext hx,hext.trans hx⟩
  ·obtain ⟨m,rfl⟩:∃m,k=m+1:=⟨k-1,by omega⟩
   obtain ⟨b,o,rfl,hb,hcell⟩:=HC.out (by omega)
   have hx:=(hext.cell hb).trans (hcell m (by omega))
   clear hcell
   have hxm:=hok.get m
   have HS:=Lib.hid (div_step (k:=m) HV.out)
   obtain ⟨x,hxe⟩:∃x,xs.getD m 0=x:=⟨_,rfl⟩
   rw [hxe] at hx hxm HS
   clear hxe
   have hwr:=hext.size
   have hrl:=length_limbs_lt hok' (Nat.le_of_lt HR.out)
   have HLIM:=Lib.hid (show [x].length+(limbs r).length≤2147483648 by simp;omega)
   simp only [d32] at hx
   go_wp2_with (at_builtin;go_must (refine wpList_append32 rfl _ _ rfl rfl (Own.fresh1' _ _ x rfl hxm) rfl (har.ext ((Ext.refl _).alloc _)) HLIM.out (by simp) ?_;intro v1 w1 hown1 hgr hb1))
   have he1:Ext wr w1:=((Ext.refl wr).alloc _).more hb1
   have hval:val ([x]++limbs r)=x+4294967296*r:=by simp [val,val_limbs]
   have HT:=rtrim_any w1 v1 _ hown1.arr (by simp;omega)
   rw [hval] at HT
   have hN1:=div_lt HR.out hxm
   have hN2:=div_bound HR.out hxm
   have hNl:=limbs_len_step hok' hN2
   have hmod:=Nat.mod_lt (x+4294967296*r) HY.out
   clear hval hgr hown1
   obtain ⟨N,hN⟩:∃N,x+4294967296*r=N:=⟨_,rfl⟩
   rw [hN] at HT HS hN1 hN2 hNl hmod
   clear hN
   have HMOD:=Lib.hid hmod;clear hmod
   have HN2:=Lib.hid hN2;clear hN2
   refine HT.mono ?_
   rintro e w2 ⟨v2,rfl,ho2,hx2⟩
   have he2:=hext.trans (he1.trans hx2)
   have HCM:=rcmp_any w2 v2 _ _ ys ho2.arr (HB.out.ext he2) (by omega) (by omega)
   rw [val_limbs] at HCM
   rcases Nat.lt_or_ge N (val ys) with hlt|hge
   ·have hcm:¬0≤cmpI N (val ys):=by rw [cmpI_lt hlt];omega
    have HZ:=Lib.hid (Nat.div_eq_of_lt hlt)
    have HZ2:=Lib.hid (Nat.mod_eq_of_lt hlt)
    have HLT:=Lib.hid hlt;clear hlt hN1 HT hNl
    have HCM:=Lib.hid HCM
    generalize cmpI N (val ys)=cc at HCM hcm
    go_wp2_with fail
    refine HCM.out.mono ?_;rintro e w3 ⟨rfl,rfl⟩
    go_wp2_with fail
    go_roundw
    case rel=>
     refine ⟨m,N,by omega,HLT.out,rfl,0::qs,by have:=HL.out;simp;omega,ok_cons (by omega) hokq,?_,?_,ho2.arr,he2⟩
     ·have:=HS.out;rw [HZ.out,HZ2.out] at this;exact this
     ·have h1:=HBK.out.ext (he1.trans hx2)
      rw [List.replicate_succ',List.append_assoc] at h1
      exact h1
    case measure=>simp [intOf]
   ·have hcm:0≤cmpI N (val ys):=by unfold cmpI;split<;>(try split)<;>omega
    have HGE:=Lib.hid hge;clear hge
    have HCM:=Lib.hid HCM
    generalize cmpI N (val ys)=cc at HCM hcm
    go_wp2_with fail
    refine HCM.out.mono ?_;rintro e w3 ⟨rfl,rfl⟩
    have HF:=fits_any w2 v2 _ _ ys ho2.arr (HB.out.ext he2) (by omega) (by omega) (by rw [val_limbs];exact HN2.out)
    rw [val_limbs] at HF
    have hsubm:N-(val ys*(N / val ys)+0)=N % val ys:=by
     have:=Nat.div_add_mod N (val ys);omega
    have HSM:=Lib.hid hsubm;clear hsubm
    have hprod:(limbs (val ys*(N / val ys)+0)).length≤ys.length+1:=length_limbs_mul hok' hN1 (by omega)
    obtain ⟨q,hq⟩:∃q,N / val ys=q:=⟨_,rfl⟩
    rw [hq] at HF hN1 HS HSM hprod
    clear hq
    go_wp2_with fail
    refine HF.mono ?_
    rintro e w3 ⟨rfl,hx3⟩
    have he3:=he2.trans hx3
    have hbk3:=HBK.out.ext ((he1.trans hx2).trans hx3)
    have hst:=hbk3.cell m
    have hfz:=hbk3.frozen m
    rw [get_cells _ _ (by simp;omega)] at hst
    simp only [d32] at hst
    have HB3:=Lib.hid hbk3;clear hbk3
    go_wp2_with fail
    have hgw1:w.heap.size<w1.heap.size:=by have:=he1.size;have:=HBK.out.lt;omega
    have hov:=(ho2.ext hx3).far (p:=⟨w.heap.size,m,none⟩) hgw1 (d32 q)
    have he4:Ext w (w3.setCell ⟨w.heap.size,m,none⟩ (d32 q)):=he3.setCell (Nat.le_refl _) _
    have hbk4:=HB3.out.set_ m (d32 q)
    rw [set_cells,set_back] at hbk4
    have HSM2:=rsmall_any (w3.setCell ⟨w.heap.size,m,none⟩ (d32 q)) _ ys q 0 (HB.out.ext he4) (by omega) hN1 (by omega)
    rw [show ((0:Nat):Int)=0 from rfl] at HSM2
    have HB4:=Lib.hid hbk4;clear hbk4
    refine HSM2.mono ?_
    rintro e w5 ⟨v5,rfl,ho5,hx5⟩
    go_wp2_with fail
    have HLS:=rless_any w5 v2 v5 _ _ (hov.ext hx5).arr ho5.arr (by omega) (by omega)
    rw [val_limbs,val_limbs,HSM.out] at HLS
    refine HLS.mono ?_
    rintro e w6 ⟨v6,rfl,ho6,hx6⟩
    go_wp2_with fail
    go_roundw
    case rel=>exact ⟨m,N % val ys,by omega,HMOD.out,rfl,q::qs,by have:=HL.out;simp;omega,ok_cons hN1 hokq,HS.out,(HB4.out.ext hx5).ext hx6,ho6.arr,he4.trans (hx5.trans hx6)⟩
    case measure=>simp [intOf]
end Big
end Go.Proofs.YtaccjdbbkmhanaaGreatDoor
