import Derived.Test.YtaccjdbbkmhanaaGreatDoorM7
import Derived.Test.YtaccjdbbkmhanaaGreatDoorM2
import Derived.Deep.CutBlock
import Derived.Deep.RegionLaw
import Derived.Test.YtaccjdbbkmhanaaGreatDoorM5
import Derived.Test.YtaccjdbbkmhanaaGreatDoorM3
import Derived.Test.YtaccjdbbkmhanaaGreatDoorM6
namespace Go.Proofs.YtaccjdbbkmhanaaGreatDoor
namespace Big
open Go.RowKit
def ShlAt (w0 wr:World) (xs:List Nat) (d s L k:Nat) (zs:List Nat) (c:Nat):Prop:=
 zs.length=k∧Ok zs∧c<2 ^ s∧val zs+4294967296 ^ k*c=val (xs.take k)*2 ^ s∧
  Blk wr w0.heap.size 129 (cells (List.replicate d 0++(zs++c::List.replicate (L-k) 0)))∧Ext w0 wr
theorem ShlAt.step {w0 wr:World} {xs zs:List Nat} {d s L k c y:Nat} (h:ShlAt w0 wr xs d s L k zs c) (hk:k<L) (hs:s≤31) (hok:Ok xs) (hy:y=xs.getD k 0*2 ^ s):
  ShlAt w0 ((wr.setCell ⟨w0.heap.size,k+d,none⟩ (d32 (c+y % 4294967296))).setCell ⟨w0.heap.size,k+d+1,none⟩ (d32 (y / 4294967296))) xs d s L (k+1) (zs++[c+y % 4294967296]) (y / 4294967296):=by
 obtain ⟨hl,hoz,hc,hv,hb,he⟩:=h
 obtain ⟨p1,p2,p3⟩:=shl_parts (hok.get k) hs
 rw [←hy] at p1 p2 p3
 have hroom:=shl_room hs hc p3 (Nat.mod_lt _ (by omega))
 refine ⟨by simp [hl],hoz.snoc hroom,p1,shl_step hl hv hy,?_,(he.setCell (Nat.le_refl _) _).setCell (Nat.le_refl _) _⟩
 have h1:=(hb.set_ (k+d) (d32 (c+y % 4294967296))).set_ (k+d+1) (d32 (y / 4294967296))
 rw [set_cells,set_cells] at h1
 have e1:(List.replicate d 0++(zs++c::List.replicate (L-k) 0)).set (k+d) (c+y % 4294967296)=List.replicate d 0++(zs++(c+y % 4294967296)::List.replicate (L-k) 0):=by
  rw [List.set_append_right _ _ (by simp),List.length_replicate,show k+d-d=zs.length by omega,List.set_append_right _ _ (Nat.le_refl _),Nat.sub_self,List.set_cons_zero]
 have e2:(List.replicate d 0++(zs++(c+y % 4294967296)::List.replicate (L-k) 0)).set (k+d+1) (y / 4294967296)=List.replicate d 0++(zs++[c+y % 4294967296]++(y / 4294967296)::List.replicate (L-(k+1)) 0):=by
  rw [List.set_append_right _ _ (by simp;omega),List.length_replicate,show k+d+1-d=zs.length+1 by omega,List.set_append_right _ _ (by omega),Nat.add_sub_cancel_left,List.set_cons_succ,show L-k=(L-(k+1))+1 by omega,List.replicate_succ,List.set_cons_zero,List.append_assoc]
  rfl
 rwa [e1,e2] at h1
theorem shl_get {d k c L:Nat} {zs:List Nat} (hl:zs.length=k):(List.replicate d 0++(zs++c::List.replicate (L-k) 0)).getD (k+d) 0=c:=by
 rw [List.getD_eq_getElem?_getD,List.getElem?_append_right (by simp),List.length_replicate,show k+d-d=zs.length by omega,List.getElem?_append_right (Nat.le_refl _),Nat.sub_self]
 rfl
theorem shl_zeros (L d:Nat):zeros (L+d+1)=cells (List.replicate d 0++([]++0::List.replicate (L-0) 0)):=by
 rw [zeros_cells,List.nil_append,Nat.sub_zero,←List.replicate_succ,List.replicate_append_replicate,show d+(L+1)=L+d+1 by omega]
set_option maxHeartbeats 1000000 in
theorem shl_any (w:World) (v:Value) (xs:List Nat) (n:Nat) (h:Arr w v xs) (hl:xs.length≤268435456) (hn:n≤1048576):
  Calls Tryz.prog 169 #[v,.int .i64 (n:Int)] w fun e w'=>∃v',e= .returned v'∧Own w.heap.size w' v' (limbs (val xs*2 ^ n))∧Ext w w':=by
 have HS:=Lib.hid (size_any w v xs h)
 have hle:=size_le xs
 have HA:=Lib.hid h
 have HT:=Lib.hid (take_size h.ok)
 have HP:=Lib.hid (places_any w n hn)
 obtain ⟨hok,A,cap,rfl,hcap,hmx,hcell⟩:=h.open
 have HC:=Lib.hid hcell
 have HM:=Lib.hid hmx
 obtain ⟨d,s,hd,hs,hnd⟩:∃d s,d≤32768∧s≤31∧n=32*d+s:=⟨n / 32,n % 32,by omega,by omega,by omega⟩
 have HND:=Lib.hid hnd
 have hq:(n:Int) / 32=(d:Int):=by omega
 have hr:(n:Int) % 32=(s:Int):=by omega
 clear h hcell hmx hnd
 rcases Nat.eq_zero_or_pos (size xs) with h0|h0
 ·have hz:=size_zero h0
  rw [hz,Nat.zero_mul]
  rw [h0] at HS
  clear hz h0 hle hq hr
  go_enter Tryz.func169,Tryz.ntmps169
  go_wp2_with fail
  refine HP.out.mono ?_
  rintro e w' ⟨rfl,rfl⟩
  go_wp2_with fail
  refine HS.out.mono ?_
  rintro e w' ⟨rfl,rfl⟩
  go_wp2_with fail
  go_ret
  exact ⟨_,rfl,Own.none_ _ _,Ext.refl _⟩
 ·have HV:Hid (val (xs.take (size xs))=val xs):=Lib.hid (by rw [HT.out,val_limbs])
  generalize size xs=L at *
  have hL0:((L:Int) == 0)=false:=by rw [beq_eq_false_iff_ne];omega
  have hmk:=run_make32 (L+d+1) (by omega)
  simp only [Int.natCast_add,Int.natCast_one] at hmk
  have HPOW:=Lib.hid (pow_le32 s hs)
  go_enter Tryz.func169,Tryz.ntmps169
  go_wp2_with fail
  refine HP.out.mono ?_
  rintro e w' ⟨rfl,rfl⟩
  go_wp2_with fail
  refine HS.out.mono ?_
  rintro e w' ⟨rfl,rfl⟩
  go_wp2_with fail
  clear hmk
  go_loopw [33] (fun i wr=>∃(k:Nat) (zs:List Nat) (c:Nat),k≤L∧i= .int .i64 k∧ShlAt w wr xs d s L k zs c) (fun i _=>L-(intOf i).toNat)
  case atStart=>exact ⟨0,[],0,Nat.zero_le _,rfl,rfl,ok_nil,Nat.pow_pos (by omega),by simp [val],by rw [←shl_zeros];exact Blk.new _ _ _,(Ext.refl w).alloc _⟩
  case round=>
   obtain ⟨k,zs,c,hk,rfl,hat⟩:=hrel
   by_cases hlt:k<L
   ·obtain ⟨b,o,rfl,hb,hcell⟩:=HC.out (by omega)
    have HSTEP:=Lib.hid (fun y h=>ShlAt.step (y:=y) hat hlt hs hok h)
    obtain ⟨hlz,hoz,hc,hv,hbk,hext⟩:=hat
    have hx:=(hext.cell hb).trans (hcell k (by omega))
    clear hcell
    have hst:=hbk.cell (k+d)
    have hst2:=hbk.cell (k+d+1)
    have hfz:=hbk.frozen (k+d)
    have hfz2:=hbk.frozen (k+d+1)
    rw [get_cells _ _ (by simp;omega),shl_get hlz] at hst
    rw [get_cells _ _ (by simp;omega)] at hst2
    obtain ⟨hp1,hp2,hp3⟩:=shl_parts (hok.get k) hs
    have hor:=shl_or hc hp3
    have hroom:=shl_room hs hc hp3 (Nat.mod_lt _ (by omega))
    have hxm:=hok.get k
    have hpow:=HPOW.out
    generalize (List.replicate d 0++(zs++c::List.replicate (L-k) 0)).getD (k+d+1) 0=z at hst2
    clear hbk hv hoz hlz hp3
    have HX:=Lib.hid hext
    clear hext
    obtain ⟨x,hxe⟩:∃x,xs.getD k 0=x:=⟨_,rfl⟩
    rw [hxe] at hx hxm HSTEP hp1 hp2 hor hroom
    clear hxe
    have hPI:(2:Int) ^ s=((2 ^ s:Nat):Int):=by simp
    obtain ⟨P,hP⟩:∃P,2 ^ s=P:=⟨_,rfl⟩
    rw [hP] at hPI hp1 hp2 hor hroom hc hpow HSTEP
    clear hP
    have hpi:(x:Int)*(P:Int)=((x*P:Nat):Int):=by simp
    have HST:=Lib.hid (HSTEP.out _ rfl)
    obtain ⟨y,hy⟩:∃y,x*P=y:=⟨_,rfl⟩
    rw [hy] at hpi hp1 hp2 hor hroom HST
    clear hy HSTEP
    have hbo:bits .or .u32 (c:Int) ((y:Int) % 4294967296)=((c+y % 4294967296:Nat):Int):=by
     rw [show (y:Int) % 4294967296=((y % 4294967296:Nat):Int) by omega,bits_u32_or _ _ (by omega) (by omega),hor]
    clear hor
    simp only [d32] at hx hst hst2
    go_wp2_with fail
    go_roundw
    case rel=>exact ⟨k+1,_,_,by omega,by go_num,HST.out⟩
    case measure=>simp [intOf];omega
   ·obtain rfl:k=L:=by omega
    obtain ⟨hlz,hoz,hc,hv,hbk,hext⟩:=hat
    rw [Nat.sub_self,List.replicate_zero] at hbk
    have hpow:=HPOW.out
    have hc32:c<4294967296:=by omega
    have hall:Ok (List.replicate d 0++(zs++[c])):=(Ok.zeros d).append (hoz.snoc hc32)
    have hlen:(List.replicate d 0++(zs++[c])).length=k+d+1:=by simp;omega
    have hlast:Own w.heap.size wr (.slice (some ⟨w.heap.size,0,none⟩) (k+d+1) (k+d+1)) (List.replicate d 0++(zs++[c])):=by
     have h3:=Own.block (B:=w.heap.size) hall hbk (Nat.le_refl _) (by rw [hlen];omega)
     rwa [hlen] at h3
    have hval:val (List.replicate d 0++(zs++[c]))=val xs*2 ^ n:=by
     rw [HND.out]
     refine shl_val d s _ _ ?_
     rw [val_snoc,hlz,hv,HV.out]
    have HT2:=Lib.hid (size_any _ _ _ hlast.arr)
    have hsz:=size_le (List.replicate d 0++(zs++[c]))
    obtain ⟨A1,c1,hv1,HO⟩:=hlast.take (size (List.replicate d 0++(zs++[c]))) hsz
    rw [take_size hlast.ok,hval] at HO
    rw [hlen] at hsz
    injection hv1 with hv1 hv3 hv2
    clear hv3
    subst hv1
    subst hv2
    have HO:=Lib.hid HO
    generalize size (List.replicate d 0++(zs++[c]))=sz at *
    clear hval hlast hlen hall hbk hv hc hlz
    go_wp2_with fail
    refine HT2.out.mono ?_
    rintro e w' ⟨rfl,rfl⟩
    go_wp2_with fail
    go_ret
    exact ⟨_,rfl,HO.out,hext⟩
end Big
end Go.Proofs.YtaccjdbbkmhanaaGreatDoor
namespace Go.Proofs.YtaccjdbbkmhanaaGreatDoor
namespace Big
open Go.RowKit
theorem get_cellsR (xs:List Nat) (RX:Array Value) (i:Nat) (h:i<xs.length):(cells xs++RX)[i]? =some (d32 (xs.getD i 0)):=by
 rw [Array.getElem?_append_left (by rw [size_cells];exact h),get_cells xs i h]
theorem set_cellsR (xs:List Nat) (RX:Array Value) (i y:Nat) (h:i<xs.length):(cells xs++RX).setIfInBounds i (d32 y)=cells (xs.set i y)++RX:=by
 rw [←set_cells]
 apply Array.ext'
 simp only [Array.toList_setIfInBounds,Array.toList_append]
 rw [List.set_append_left _ _ (by simpa [cells] using h)]
theorem Arr.kept {w w':World} {g:Nat} {v:Value} {ys:List Nat} (h:Arr w v ys) (hg:w.grownBy w' (some g)) (hne:∀b o n c,v= .slice (some ⟨b,o,none⟩) n c→b≠g):Arr w' v ys:=by
 obtain ⟨hok,A,c,rfl,hc,hm,hcell⟩:=h.open
 refine Arr.mk hok hc hm fun hp=> ?_
 obtain ⟨b,o,rfl,hb,h1⟩:=hcell hp
 refine ⟨b,o,rfl,Nat.lt_of_lt_of_le hb hg.size,fun j hj=> ?_⟩
 have h2:=hg.block b hb (by simpa using hne b o _ _ rfl)
 rw [←h1 j hj]
 simp [World.cell?,h2]
structure Dr (w w':World):Prop where
 heap:w'.heap=w.heap
 grown:∀g,w.grownBy w' g
theorem Dr.refl (w:World):Dr w w:=⟨rfl,fun _=>⟨rfl,rfl,rfl,Nat.le_refl _,fun _ _ _=>rfl⟩⟩
theorem Dr.drewN {w w':World} (h:Dr w w') (n:Nat):Dr w (w'.drewN n):=⟨h.heap,fun g=>⟨(h.grown g).os,(h.grown g).tape,(h.grown g).output,(h.grown g).size,(h.grown g).block⟩⟩
theorem Dr.cell {w w':World} (h:Dr w w') (p:Addr):w'.cell? p=w.cell? p:=by
 have:=h.heap
 simp [World.cell?,this]
theorem Dr.blk {w w':World} {g:Nat} {t:TypeId} {cs:Array Value} (h:Dr w w') (hb:Blk w g t cs):Blk w' g t cs:=by
 unfold Blk
 rw [h.heap]
 exact hb
def MsubAt (RX:Array Value) (w0 wr:World) (g k n:Nat) (us ys:List Nat) (G i c b:Nat) (zs:List Nat):Prop:=
 zs.length=i∧Ok zs∧c<4294967296∧b≤1∧val zs+G*val (ys.take i)=val ((seg us k n).take i)+4294967296 ^ i*(c+b)∧
  Blk wr g 129 (cells (over us k zs)++RX)∧w0.grownBy wr (some g)
theorem grown_set {w0 wr:World} {g:Nat} (h:w0.grownBy wr (some g)) (i:Nat) (u:Value):w0.grownBy (wr.setCell ⟨g,i,none⟩ u) (some g):=
 ⟨h.os,h.tape,h.output,by simpa using h.size,fun b hb hne=>by
  rw [←h.block b hb hne]
  exact Below.heap_setCell wr ⟨g,i,none⟩ u b (by simpa using hne)⟩
theorem MsubAt.step {RX:Array Value} {w0 wr:World} {g k n G i c b t d b':Nat} {us ys zs:List Nat} (h:MsubAt RX w0 wr g k n us ys G i c b zs) (hi:i<n) (hk:k+n+1≤us.length)
  (ht:t=c+G*ys.getD i 0) (htm:t<18446744073709551616) (hd:us.getD (k+i) 0+4294967296*b'=d+t % 4294967296+b) (hdm:d<4294967296) (hb':b'≤1):
  MsubAt RX w0 (wr.setCell ⟨g,k+i,none⟩ (d32 d)) g k n us ys G (i+1) (t / 4294967296) b' (zs++[d]):=by
 obtain ⟨hl,hok,hc,hb,hv,hblk,hgr⟩:=h
 refine ⟨by simp [hl],hok.snoc hdm,Nat.div_lt_of_lt_mul (by omega),hb',msub_step hl hv ht (by rw [seg_get (by omega)];exact hd),?_,grown_set hgr _ _⟩
 have h1:=hblk.set_ (k+i) (d32 d)
 have h2:=over_set (us:=us) (zs:=zs) (k:=k) (d:=d) (by omega)
 rw [hl] at h2
 rw [set_cellsR _ _ _ _ (by simp [over];omega),h2] at h1
 exact h1
def AddbAt (RX:Array Value) (w0 wr:World) (g k:Nat) (us xs ys:List Nat) (i a:Nat) (zz:List Nat):Prop:=
 zz.length=i∧Ok zz∧a≤1∧val zz+4294967296 ^ i*a=val (xs.take i)+val (ys.take i)∧Blk wr g 129 (cells (over (over us k xs) k zz)++RX)∧w0.grownBy wr (some g)
theorem AddbAt.step {RX:Array Value} {w0 wr:World} {g k i a t:Nat} {us xs ys zz:List Nat} (h:AddbAt RX w0 wr g k us xs ys i a zz) (hi:k+i<us.length) (hk:k+xs.length≤us.length) (htm:t<8589934592)
  (ht:t=xs.getD i 0+ys.getD i 0+a):AddbAt RX w0 (wr.setCell ⟨g,k+i,none⟩ (d32 (t % 4294967296))) g k us xs ys (i+1) (t / 4294967296) (zz++[t % 4294967296]):=by
 obtain ⟨hl,hok,ha,hv,hblk,hgr⟩:=h
 refine ⟨by simp [hl],hok.snoc (Nat.mod_lt _ (by omega)),by omega,addb_step hl hv (by omega),?_,grown_set hgr _ _⟩
 have h1:=hblk.set_ (k+i) (d32 (t % 4294967296))
 have h2:=over_set (us:=over us k xs) (zs:=zz) (k:=k) (d:=t % 4294967296) (by rw [over_length hk];omega)
 rw [hl] at h2
 rw [set_cellsR _ _ _ _ (by simp [over];omega),h2] at h1
 exact h1
theorem sub32_mod (w:World) (x t b:Nat) (hx:x<4294967296) (hb:b≤1):
  Calls Tryz.prog 179 #[.int .u32 (x:Int),.int .u32 ((t:Int) % 4294967296),.int .u32 (b:Int)] w fun e w'=>∃d b':Nat,e= .returned (.tuple #[.int .u32 (d:Int),.int .u32 (b':Int)])∧d<4294967296∧b'≤1∧x+4294967296*b'=d+t % 4294967296+b∧w=w':=
 sub32_any w x (t % 4294967296) b hx (Nat.mod_lt _ (by omega)) hb
set_option maxHeartbeats 1000000 in
set_option maxRecDepth 100000 in
theorem digit_any (RX:Array Value) (w:World) (g k c n:Nat) (us:List Nat) (v:Value) (ys:List Nat) (hb:Blk w g 129 (cells us++RX)) (hok:Ok us) (hn:ys.length=n+2) (hk:k+(n+2)+1≤us.length) (hm:us.length≤1073741824)
  (_hc:n+3≤c) (_hcm:c≤maxLen) (hv:Arr w v ys) (hne:∀b o m c,v= .slice (some ⟨b,o,none⟩) m c→b≠g) (htop:1≤ys.getD (n+1) 0) (hlt:val (seg us k (n+2))<val ys*4294967296):
  Calls Tryz.prog 170 #[.slice (some ⟨g,k,none⟩) (n+3:Nat) c,v] w fun e w'=>∃zs,e= .returned (.int .u32 ((val (seg us k (n+2)) / val ys:Nat):Int))∧zs.length=n+3∧Ok zs∧val zs=val (seg us k (n+2)) % val ys∧
   Blk w' g 129 (cells (over us k zs)++RX)∧w.grownBy w' (some g):=by
 have HV:=Lib.hid hv
 obtain ⟨hoky,A,cap,rfl,hcap,hmx,hcell0⟩:=hv.open
 obtain ⟨b,o,rfl,hbb,hcell⟩:=hcell0 (by omega)
 clear hcell0
 have HNE:=Lib.hid (hne b o _ _ rfl)
 have HC:=Lib.hid hcell
 have HB:=Lib.hid hb
 have hu2:=hb.cell (k+(n+2))
 have hu1:=hb.cell (k+(n+1))
 have hu0:=hb.cell (k+n)
 rw [get_cellsR _ _ _ (by omega)] at hu2 hu1 hu0
 have hy1:=hcell (n+1) (by omega)
 have hy0:=hcell n (by omega)
 have hx2m:=hok.get (k+(n+2))
 have hx1m:=hok.get (k+(n+1))
 have hx0m:=hok.get (k+n)
 have hy1m:=hoky.get (n+1)
 have hy0m:=hoky.get n
 have HSET:Hid (Knuth.Setup 4294967296 (val (seg us k (n+2))) (val ys) (ys.getD (n+1) 0) (ys.getD n 0) (4294967296 ^ n) (us.getD (k+(n+2)) 0*4294967296+us.getD (k+(n+1)) 0) (us.getD (k+n) 0)):=Lib.hid (by
  have e1:=val_split' ys n
  have e2:=val_split' (seg us k (n+2)) n
  rw [val_drop',val_drop',List.drop_eq_nil_of_le (by omega),val] at e1
  rw [val_drop',val_drop',val_drop',List.drop_eq_nil_of_le (by rw [seg_length (by omega)];omega),val,seg_get (by omega),seg_get (by omega),seg_get (by omega)] at e2
  refine ⟨⟨_,val_take_lt hoky n,?_⟩,⟨_,val_take_lt (hok.seg k (n+2)) n,?_⟩,hlt,htop,hy0m,hx0m,pow_pos' n⟩
  ·rw [e1,Nat.mul_comm (4294967296 ^ n),Nat.add_comm]
   congr 2
   omega
  ·rw [e2,Nat.mul_comm (4294967296 ^ n),Nat.add_comm,show k+(n+1+1)=k+(n+2) by omega]
   congr 2
   omega)
 obtain ⟨x2,hx2⟩:∃x,us.getD (k+(n+2)) 0=x:=⟨_,rfl⟩
 obtain ⟨x1,hx1⟩:∃x,us.getD (k+(n+1)) 0=x:=⟨_,rfl⟩
 obtain ⟨x0,hx0⟩:∃x,us.getD (k+n) 0=x:=⟨_,rfl⟩
 obtain ⟨y1,hye1⟩:∃x,ys.getD (n+1) 0=x:=⟨_,rfl⟩
 obtain ⟨y0,hye0⟩:∃x,ys.getD n 0=x:=⟨_,rfl⟩
 rw [hx2] at hu2 hx2m HSET
 rw [hx1] at hu1 hx1m HSET
 rw [hx0] at hu0 hx0m HSET
 rw [hye1] at hy1 hy1m HSET htop
 rw [hye0] at hy0 hy0m HSET
 clear hx2 hx1 hx0 hye1 hye0
 have hor:=or_low x2 x1 hx2m hx1m
 have hT:x2*4294967296+x1<18446744073709551616:=by omega
 obtain ⟨T,hTe⟩:∃T,x2*4294967296+x1=T:=⟨_,rfl⟩
 rw [hTe] at hor hT HSET
 have HTE:=Lib.hid hTe
 have HHN:=Lib.hid hn
 have HLT:=Lib.hid hlt
 unfold maxLen at _hcm
 rw [hn] at hcap ⊢
 clear hTe hb hcell hv hlt hne hn
 simp only [d32] at hu2 hu1 hu0 hy1 hy0
 have hw1:IntKind.i64.wrap ((n:Int)+2-1)=(n:Int)+1:=by rw [IntWalk.i64_in _ (by omega)];omega
 have hw2:IntKind.i64.wrap ((n:Int)+2-2)=(n:Int):=by rw [IntWalk.i64_in _ (by omega)];omega
 have ht1:((n:Int)+1).toNat=n+1:=by omega
 have ht2:((n:Int)+2).toNat=n+2:=by omega
 have h01:(0:Int)≤(n:Int)+1:=by omega
 have h02:(0:Int)≤(n:Int)+2:=by omega
 have HQF:=Lib.hid HSET.out.q_first
 obtain ⟨q,hq⟩:∃q,val (seg us k (n+2)) / val ys=q:=⟨_,rfl⟩
 have HSL:=Lib.hid (fun G R=>HSET.out.lower (g:=G) (r:=R))
 have HSD:=Lib.hid (fun G R=>HSET.out.done (g:=G) (r:=R))
 have HSB:=Lib.hid (fun G R=>HSET.out.broken (g:=G) (r:=R))
 have HSN:=Lib.hid (fun G=>HSET.out.near (g:=G))
 rw [hq] at HQF HSL HSN ⊢
 have HQE:=Lib.hid hq
 clear hq
 go_enter Tryz.func170,Tryz.ntmps170
 go_wp2_with fail
 go_quiet (fail)
 go_wp2_with fail
 have hy10:(0:Int)<(y1:Int):=by omega
 obtain ⟨Q,hQ⟩:∃Q,T / y1=Q:=⟨_,rfl⟩
 obtain ⟨R,hR⟩:∃R,T % y1=R:=⟨_,rfl⟩
 have hQT:Q≤T:=by rw [←hQ];exact Nat.div_le_self _ _
 have hRy:R<y1:=by rw [←hR];exact Nat.mod_lt _ (by omega)
 have HQR:Hid (Q*y1+R=T):=Lib.hid (by rw [←hQ,←hR];exact Nat.div_add_mod' T y1)
 have hTq:IntKind.u64.wrap ((T:Int) / (y1:Int))=(Q:Int):=by
  rw [←Int.natCast_ediv,hQ,IntKind.wrap_u64]
  omega
 have hTr:(T:Int) % (y1:Int)=(R:Int):=by rw [←Int.natCast_emod,hR]
 have HQ:Hid (q≤Q):=Lib.hid (by
  rw [←hQ]
  exact (Nat.le_div_iff_mul_le (by omega)).2 HQF.out)
 clear hQ hR
 go_quiet (fail)
 have HTR:=Lib.hid hTr
 clear hTq hTr hor
 go_upto_block 0 with fail
 go_cut [7,8] from 47 to 82 (fun s7 s8 wx=>∃G R:Nat,s7= .int .u64 (G:Int)∧s8= .int .u64 (R:Int)∧G<4294967296∧q≤G∧G≤q+1∧Dr w wx)
 case first=>
  go_wp2_with fail
  go_loopw [7,8] (fun s7 s8 wr=>∃G R:Nat,s7= .int .u64 (G:Int)∧s8= .int .u64 (R:Int)∧Hid (G*y1+R=T)∧G≤Q∧q≤G∧R<4294967296∧Dr w wr) (fun s7 _ _=>(intOf s7).toNat)
  case atStart=>exact ⟨Q,R,rfl,by rw [HTR.out],HQR,Nat.le_refl _,HQ.out,by omega,(Dr.refl _).drewN _ |>.drewN _⟩
  case round=>
   obtain ⟨G,R',rfl,rfl,HGR,hGQ,hqG,hR',HDR⟩:=hrel
   have hu2':=(HDR.cell _).trans hu2
   have hu1':=(HDR.cell _).trans hu1
   have hu0':=(HDR.cell _).trans hu0
   have hy1':=(HDR.cell _).trans hy1
   have hy0':=(HDR.cell _).trans hy0
   rcases Nat.lt_or_ge G 4294967296 with hG|hG
   ·have hb1:(((G:Int) / 4294967296) != 0)=false:=by rw [bne_eq_false_iff_eq];omega
    have hb2:(((G:Int) / 4294967296) == 0)=true:=by rw [beq_iff_eq];omega
    have hor2:=or_low R' x0 hR' hx0m
    have hpm:=prod_le hG hy0m
    have hPI:(G:Int)*(y0:Int)=((G*y0:Nat):Int):=by simp
    have HL2:=Lib.hid (fun h=>HSL.out G R' HGR.out hqG (.inr h))
    have HD2:=Lib.hid (fun h=>HSN.out G hG (HSD.out G R' HGR.out h))
    have hSm:R'*4294967296+x0<18446744073709551616:=by omega
    obtain ⟨P,hP⟩:∃P,G*y0=P:=⟨_,rfl⟩
    obtain ⟨S,hS⟩:∃S,R'*4294967296+x0=S:=⟨_,rfl⟩
    rw [hP] at hPI hpm HL2 HD2
    rw [hS] at hor2 hSm HL2 HD2
    clear hP hS
    rcases Nat.lt_or_ge S P with hSP|hSP
    ·have h1:=HL2.out hSP
     have hd:decide (S<P)=true:=by simpa using hSP
     have hd2:decide ((S:Int)<(P:Int))=true:=by simpa using hSP
     obtain ⟨G',hG'⟩:∃G',G=G'+1:=⟨G-1,by omega⟩
     have hgs:(G:Int)-1=(G':Int):=by omega
     have HG':=Lib.hid hG'
     have HGN:Hid (G'*y1+(R'+y1)=T):=Lib.hid (by
      have:=HGR.out
      rw [hG',Nat.add_mul,Nat.one_mul] at this
      omega)
     have HLQ:Hid (G'≤Q):=Lib.hid (by omega)
     have HqG:Hid (q≤G'):=Lib.hid (by omega)
     clear hG'
     rcases Nat.lt_or_ge (R'+y1) 4294967296 with hr|hr
     ·have hc1:(((R':Int)+(y1:Int)) / 4294967296 != 0)=false:=by rw [bne_eq_false_iff_eq];omega
      have hc2:(((R':Int)+(y1:Int)) / 4294967296 == 0)=true:=by rw [beq_iff_eq];omega
      go_wp2_with fail
      go_quiet (fail)
      go_wp2_with fail
      go_roundw
      case rel=>exact ⟨G',R'+y1,rfl,by go_num,HGN,HLQ.out,HqG.out,hr,HDR.drewN _⟩
      case measure=>have:=HG'.out;simp [intOf];omega
     ·have hc1:(((R':Int)+(y1:Int)) / 4294967296 != 0)=true:=by rw [bne_iff_ne];omega
      have hc2:(((R':Int)+(y1:Int)) / 4294967296 == 0)=false:=by rw [beq_eq_false_iff_ne];omega
      have HE:Hid (G'<4294967296∧G'≤q+1):=Lib.hid (by
       obtain ⟨e1,e2⟩:=HSB.out G' (R'+y1) HGN.out hr
       exact ⟨e1,HSN.out G' e1 (HSD.out G' (R'+y1) HGN.out e2)⟩)
      go_wp2_with fail
      go_quiet (fail)
      go_wp2_with fail
      go_meet
      exact ⟨G',R'+y1,rfl,by go_num,HE.out.1,HqG.out,HE.out.2,HDR.drewN _⟩
    ·have hd:decide (S<P)=false:=by simp;omega
     have hd2:decide ((S:Int)<(P:Int))=false:=by simp;omega
     have HE:=Lib.hid (HD2.out hSP)
     go_wp2_with fail
     go_quiet (fail)
     go_wp2_with fail
     go_meet
     exact ⟨G,R',rfl,rfl,hG,hqG,HE.out,HDR.drewN _⟩
   ·have h1:=HSL.out G R' HGR.out hqG (.inl hG)
    have hb1:(((G:Int) / 4294967296) != 0)=true:=by rw [bne_iff_ne];omega
    have hb2:(((G:Int) / 4294967296) == 0)=false:=by rw [beq_eq_false_iff_ne];omega
    obtain ⟨G',hG'⟩:∃G',G=G'+1:=⟨G-1,by omega⟩
    have hgs:(G:Int)-1=(G':Int):=by omega
    have HG':=Lib.hid hG'
    have HGN:Hid (G'*y1+(R'+y1)=T):=Lib.hid (by
     have:=HGR.out
     rw [hG',Nat.add_mul,Nat.one_mul] at this
     omega)
    have HLQ:Hid (G'≤Q):=Lib.hid (by omega)
    have HqG:Hid (q≤G'):=Lib.hid (by omega)
    clear hG'
    rcases Nat.lt_or_ge (R'+y1) 4294967296 with hr|hr
    ·have hc1:(((R':Int)+(y1:Int)) / 4294967296 != 0)=false:=by rw [bne_eq_false_iff_eq];omega
     have hc2:(((R':Int)+(y1:Int)) / 4294967296 == 0)=true:=by rw [beq_iff_eq];omega
     go_wp2_with fail
     go_quiet (fail)
     go_wp2_with fail
     go_roundw
     case rel=>exact ⟨G',R'+y1,rfl,by go_num,HGN,HLQ.out,HqG.out,hr,HDR.drewN _⟩
     case measure=>have:=HG'.out;simp [intOf];omega
    ·have hc1:(((R':Int)+(y1:Int)) / 4294967296 != 0)=true:=by rw [bne_iff_ne];omega
     have hc2:(((R':Int)+(y1:Int)) / 4294967296 == 0)=false:=by rw [beq_eq_false_iff_ne];omega
     have HE:Hid (G'<4294967296∧G'≤q+1):=Lib.hid (by
      obtain ⟨e1,e2⟩:=HSB.out G' (R'+y1) HGN.out hr
      exact ⟨e1,HSN.out G' e1 (HSD.out G' (R'+y1) HGN.out e2)⟩)
     go_wp2_with fail
     go_quiet (fail)
     go_wp2_with fail
     go_meet
     exact ⟨G',R'+y1,rfl,by go_num,HE.out.1,HqG.out,HE.out.2,HDR.drewN _⟩
 case rest=>
  obtain ⟨G,R1,rfl,rfl,hG,hqG,hGq,HDR⟩:=hcut
  clear HSL HSD HSB HSN HQF HQR HTR hQT hRy HQ hu2 hu1 hu0 hy1 hy0
  have hg0:=HB.out.lt
  have HB1:=HDR.blk HB.out
  have HG1:=HDR.grown (some g)
  generalize hwc:wc=wd at *
  clear hwc
  go_wp2_with fail
  go_loopw [9,10,85] (fun s9 s10 s85 wr=>∃(i cy bo:Nat) (zs:List Nat),i≤n+2∧s9= .int .u64 (cy:Int)∧s10= .int .u32 (bo:Int)∧s85= .int .i64 (i:Int)∧MsubAt RX w wr g k (n+2) us ys G i cy bo zs) (fun _ _ s85 _=>n+2-(intOf s85).toNat)
  case atStart=>exact ⟨0,0,0,[],Nat.zero_le _,rfl,rfl,rfl,rfl,ok_nil,by omega,by omega,by simp [val],by rw [over_nil];exact HB1,HG1⟩
  case round=>
   obtain ⟨i,cy,bo,zs,hi,rfl,rfl,rfl,hat⟩:=hrel
   have hkeep:∀j,j<n+2→wr.cell? ⟨b,o+j,none⟩=some (d32 (ys.getD j 0)):=fun j hj=>by
    have h2:=hat.2.2.2.2.2.2.block b hbb (by have:=HNE.out;simpa using this)
    rw [←HC.out j (by rw [HHN.out];exact hj)]
    simp [World.cell?,h2]
   by_cases hlt:i<n+2
   ·have hx:=hkeep i hlt
    have HST:=Lib.hid (fun t d b' h1 h2 h3 h4 h5=>MsubAt.step (t:=t) (d:=d) (b':=b') hat hlt hk h1 h2 h3 h4 h5)
    obtain ⟨hlz,hoz,hcy,hbo,hv,hblk,hgr⟩:=hat
    have hst:=hblk.cell (k+i)
    have hfz:=hblk.frozen (k+i)
    rw [get_cellsR _ _ _ (by rw [over_length (by omega)];omega),over_get (by omega) (by omega)] at hst
    have hym:=hoky.get i
    have hum:=hok.get (k+i)
    clear hkeep hblk hv hoz hlz
    have HGR:=Lib.hid hgr
    clear hgr
    obtain ⟨y,hye⟩:∃y,ys.getD i 0=y:=⟨_,rfl⟩
    obtain ⟨u,hue⟩:∃u,us.getD (k+i) 0=u:=⟨_,rfl⟩
    rw [hye] at hx hym HST
    rw [hue] at hst hum HST
    clear hye hue
    have hpm:=prod_le hG hym
    have hPI:(G:Int)*(y:Int)=((G*y:Nat):Int):=by simp
    obtain ⟨P,hP⟩:∃P,G*y=P:=⟨_,rfl⟩
    rw [hP] at hPI hpm HST
    clear hP
    have hs:=fun W=>sub32_mod W u (cy+P) bo hum hbo
    simp only [Int.natCast_add] at hs
    have HS:=Lib.hid hs
    clear hs
    have htm:cy+P<18446744073709551616:=by omega
    simp only [d32] at hx hst
    go_wp2_with fail
    refine (HS.out _).mono ?_
    rintro e w2 ⟨d,b',rfl,hd,hb',he,rfl⟩
    have HST2:=Lib.hid (HST.out (cy+P) d b' rfl htm he hd hb')
    clear he
    go_wp2_with fail
    go_roundw
    case rel=>exact ⟨i+1,(cy+P) / 4294967296,b',_,by omega,by go_num,rfl,by go_num,HST2.out⟩
    case measure=>simp [intOf];omega
   ·obtain rfl:i=n+2:=by omega
    obtain ⟨hlz,hoz,hcy,hbo,hv,hblk,hgr⟩:=hat
    have hst:=hblk.cell (k+(n+2))
    have hfz:=hblk.frozen (k+(n+2))
    rw [get_cellsR _ _ _ (by rw [over_length (by omega)];omega),over_get (by omega) (by omega)] at hst
    have hum:=hok.get (k+(n+2))
    have HME:=Lib.hid (fun d b' h=>msub_end (d:=d) (b':=b') hlz HHN.out (seg_length (by omega)) hv h)
    rw [seg_get (by omega)] at HME
    have HBL:=Lib.hid hblk
    have HKEEP:=Lib.hid hkeep
    obtain ⟨u,hue⟩:∃u,us.getD (k+(n+2)) 0=u:=⟨_,rfl⟩
    rw [hue] at hst hum HME
    clear hue hkeep hblk hv
    have HGR:=Lib.hid hgr
    clear hgr
    have HS:=Lib.hid (fun W=>sub32_any W u cy bo hum hcy hbo)
    have hb2:((n:Int)+2).toNat=n+2:=by omega
    simp only [d32] at hst
    go_wp2_with fail
    refine (HS.out _).mono ?_
    rintro e w2 ⟨d,b',rfl,hd,hb',he,rfl⟩
    have HV2:=Lib.hid (HME.out d b' he)
    have hoz2:=hoz.snoc hd
    have hlz2:(zs++[d]).length=n+3:=by simp [hlz]
    have hblk2:=HBL.out.set_ (k+(n+2)) (d32 d)
    have h2:=over_set (us:=us) (zs:=zs) (k:=k) (d:=d) (by omega)
    rw [hlz] at h2
    rw [set_cellsR _ _ _ _ (by rw [over_length (by omega)];omega),h2] at hblk2
    have HB2:=Lib.hid hblk2
    have HG2:=Lib.hid (grown_set HGR.out (k+(n+2)) (d32 d))
    clear he h2 hblk2 HS
    rcases (show G=q∨G=q+1 by omega) with hGe|hGe
    ·obtain ⟨hz0,hr⟩:=msub_right hoz2 hlz2 HV2.out (by rw [HQE.out];exact hGe) hb'
     subst hz0
     have HR:=Lib.hid hr
     subst hGe
     clear hr
     go_wp2_with fail
     go_ret
     exact ⟨zs++[d],rfl,hlz2,hoz2,HR.out,HB2.out,HG2.out⟩
    ·have hV0:0<val ys:=HSET.out.vpos
     obtain ⟨hz0,hr⟩:=msub_one hoz2 hV0 hlz2 HV2.out (by rw [HQE.out];exact hGe) hb'
     subst hz0
     have HR:=Lib.hid hr
     have HRL:=Lib.hid (Nat.mod_lt (val (seg us k (n+2))) hV0)
     clear hr
     subst hGe
     generalize hxs:zs++[d]=xs at *
     clear hxs
     have hgw:IntKind.u64.wrap (((q+1:Nat):Int)-1)=(q:Int):=by rw [IntKind.wrap_u64];omega
     simp only [Int.natCast_add,Int.natCast_one] at hgw
     go_wp2_with fail
     go_loopw [13,133] (fun s13 s133 wr=>∃(i a:Nat) (zz:List Nat),i≤n+2∧s13= .int .u32 (a:Int)∧s133= .int .i64 (i:Int)∧AddbAt RX w wr g k us xs ys i a zz) (fun _ s133 _=>n+2-(intOf s133).toNat)
     case atStart=>exact ⟨0,0,[],Nat.zero_le _,rfl,rfl,rfl,ok_nil,by omega,by simp [val],by rw [over_nil];exact HB2.out,HG2.out⟩
     case round=>
      clear HKEEP hst hfz
      obtain ⟨i,a,zz,hi,rfl,rfl,hat⟩:=hrel
      by_cases hlt:i<n+2
      ·have hkeep:wr.cell? ⟨b,o+i,none⟩=some (d32 (ys.getD i 0)):=by
        have h2:=hat.2.2.2.2.2.block b hbb (by have:=HNE.out;simpa using this)
        rw [←HC.out i (by rw [HHN.out];exact hlt)]
        simp [World.cell?,h2]
       have HST:=Lib.hid (fun t h1 h2=>AddbAt.step (t:=t) hat (by omega) (by omega) h1 h2)
       obtain ⟨hlz,hoz,ha,hv,hblk,hgr⟩:=hat
       have hst:=hblk.cell (k+i)
       have hfz:=hblk.frozen (k+i)
       rw [get_cellsR _ _ _ (by rw [over_length (by rw [over_length (by omega)];omega),over_length (by omega)];omega),over_get (by rw [over_length (by omega)];omega) (by omega),over_in (by omega) (by omega)] at hst
       have hym:=hoky.get i
       have hum:=hoz2.get i
       clear hblk hv hoz hlz
       have HGR:=Lib.hid hgr
       clear hgr
       obtain ⟨y,hye⟩:∃y,ys.getD i 0=y:=⟨_,rfl⟩
       obtain ⟨u,hue⟩:∃u,xs.getD i 0=u:=⟨_,rfl⟩
       rw [hye] at hkeep hym HST
       rw [hue] at hst hum HST
       clear hye hue
       have HS:=Lib.hid (fun W=>add32_any W u y a hum hym ha)
       have HST2:=Lib.hid (HST.out (u+y+a) (by omega) rfl)
       simp only [d32] at hkeep hst
       go_wp2_with fail
       refine (HS.out _).mono ?_
       rintro e w2 ⟨rfl,rfl⟩
       go_wp2_with fail
       go_roundw
       case rel=>exact ⟨i+1,(u+y+a) / 4294967296,_,by omega,rfl,by go_num,HST2.out⟩
       case measure=>simp [intOf];omega
      ·obtain rfl:i=n+2:=by omega
       obtain ⟨hlz,hoz,ha,hv,hblk,hgr⟩:=hat
       have hst:=hblk.cell (k+(n+2))
       have hfz:=hblk.frozen (k+(n+2))
       rw [get_cellsR _ _ _ (by rw [over_length (by rw [over_length (by omega)];omega),over_length (by omega)];omega),over_get (by rw [over_length (by omega)];omega) (by omega),over_in (by omega) (by omega)] at hst
       have hE:=addb_end hoz hoky hlz HHN.out (by omega:xs.length=n+2+1) rfl hv HR.out HRL.out
       have hblk2:=hblk.set_ (k+(n+2)) (d32 ((xs.getD (n+2) 0+a) % 4294967296))
       have h2:=over_set (us:=over us k xs) (zs:=zz) (k:=k) (d:=(xs.getD (n+2) 0+a) % 4294967296) (by rw [over_length (by omega)];omega)
       rw [hlz] at h2
       rw [set_cellsR _ _ _ _ (by rw [over_length (by rw [over_length (by omega)];omega),over_length (by omega)];omega),h2,over_over (by omega) (by simp [hlz,hlz2])] at hblk2
       have hum:=hoz2.get (n+2)
       have hG3:=grown_set hgr (k+(n+2)) (d32 ((xs.getD (n+2) 0+a) % 4294967296))
       obtain ⟨u,hue⟩:∃u,xs.getD (n+2) 0=u:=⟨_,rfl⟩
       rw [hue] at hst hum hE hblk2 hG3
       have HE:=Lib.hid hE
       have HB3:=Lib.hid hblk2
       have HG3:=Lib.hid hG3
       clear hue hE hblk hblk2 hG3 h2 hv hgr
       simp only [d32] at hst
       go_wp2_with fail
       go_ret
       exact ⟨_,rfl,by simp [hlz],hoz.snoc (Nat.mod_lt _ (by omega)),HE.out,HB3.out,HG3.out⟩
end Big
end Go.Proofs.YtaccjdbbkmhanaaGreatDoor
namespace Go.Proofs.YtaccjdbbkmhanaaGreatDoor
namespace Big
open Go.RowKit
set_option maxRecDepth 100000 in
theorem more_any (B g:Nat) (w:World) (L:Value) (l:List Int) (a:Nat) (h:TapeAt B g w L l a):Calls Tryz.prog 31 #[.pointer (some ⟨g,0,none⟩)] w fun e w'=>e= .returned (.bool (decide (a<l.length)))∧Dr w w':=by
 obtain ⟨k0,k1,_,_,_⟩:=h.blk.two
 obtain ⟨A,c,rfl,hc,hm,_⟩:=h.arr.open
 have hx:decide ((a:Int)<(l.length:Int))=decide (a<l.length):=by simp
 have HX:=Lib.hid hx
 clear h hc hm hx
 go_enter Tryz.func31,Tryz.ntmps31
 go_wp2_with fail
 go_quiet (fail)
 go_wp2_with fail
 go_ret
 exact ⟨by rw [←HX.out];rfl,(Dr.refl w).drewN _⟩
set_option maxRecDepth 100000 in
theorem next_any (B g:Nat) (w:World) (L:Value) (l:List Int) (a:Nat) (n:Int) (h:TapeAt B g w L l a) (hn:1≤n) (hn2:n≤4611686018427387904):Calls Tryz.prog 33 #[.pointer (some ⟨g,0,none⟩),.int .i64 n] w fun e w'=>e= .returned (.int .i64 (nextV l a n))∧TapeAt B g w' L l (nextA l a)∧(∀B',KB B' g w w'):=by
 have H:=Lib.hid h
 obtain ⟨k0,k1,f0,f1,hg⟩:=h.blk.two
 have hpos:=h.pos
 have hfew:=h.few
 obtain ⟨A,c,rfl,hc,hm,hcell⟩:=h.arr.open
 have hok:=h.arr.1
 have HC:=Lib.hid hcell
 have HOK:=Lib.hid hok
 clear h hc hm hok hcell
 rcases Nat.lt_or_ge a l.length with hlt|hge
 ·have hV:nextV l a n=l[a] % n:=by unfold nextV;rw [if_pos hlt,List.getD_eq_getElem?_getD,List.getElem?_eq_getElem hlt];rfl
  have hA:nextA l a=a+1:=if_pos hlt
  have hb:=HOK.out l[a] (List.getElem_mem hlt)
  obtain ⟨b,o,rfl,hbl,hcell⟩:=HC.out (by omega)
  have hoff:=H.out.off (by omega) b rfl
  have hst:=hcell a hlt
  have HST:Hid (∀W:World,KB B g w W→W.cell? ⟨b,o+a,none⟩=some (.int .i64 l[a])):=Lib.hid (fun W hk=>(World.cell?_of_block (a:=⟨b,o+a,none⟩) (hk.block b hoff.1 hoff.2)).trans hst)
  have HV:=Lib.hid hV
  have HA:=Lib.hid hA
  have HMOD:=Lib.hid (fun W=>mod_any W l[a] n hb.1 hb.2 hn hn2)
  have hw1:IntKind.i64.wrap ((a:Int)+1)=(a:Int)+1:=IntWalk.i64_in _ (by omega)
  have hw2:IntKind.i64.wrap (a:Int)=(a:Int):=IntWalk.i64_in _ (by omega)
  have hbs:=H.out.blk.set_ 1 (.int .i64 ((a:Int)+1))
  have HBS:Hid (Blk (w.setCell ⟨g,1,none⟩ (.int .i64 ((a:Int)+1))) g 61 #[.slice (some ⟨b,o,none⟩) l.length c,.int .i64 ((a:Int)+1)]):=Lib.hid hbs
  clear hV hA hcell hst hb hoff hbs
  generalize l[a]=x at *
  go_enter Tryz.func33,Tryz.ntmps33
  go_wp2_with fail
  go_quiet (fail)
  go_wp2_with fail
  obtain ⟨W,hW⟩:∃W,W=(w.drewN nq).setCell ⟨g,1,none⟩ (.int .i64 ((a:Int)+1)):=⟨_,rfl⟩
  rw [←hW]
  have HK:Hid (∀B',KB B' g w W):=Lib.hid (fun B'=>by rw [hW];exact ((KB.refl B' g w).drewN nq).trans (KB.set (p:=⟨g,1,none⟩) rfl _))
  have hbW:Blk W g 61 #[.slice (some ⟨b,o,none⟩) l.length c,.int .i64 ((a:Int)+1)]:=by
   rw [hW]
   exact (H.out.blk.drewN nq).set_ 1 (.int .i64 ((a:Int)+1))
  have HBW:=Lib.hid hbW
  obtain ⟨m0,m1,_,_,hgW⟩:=hbW.two
  have hst:=HST.out W (HK.out B)
  clear hW hbW k0 k1 f0 f1 hg HBS
  have hlt2:(a:Int)<(l.length:Int):=by omega
  go_region_law (go_simp;go_at_call 21;refine (HMOD.out _).mono ?_;rintro e w3 ⟨rfl,rfl⟩)
  all_goals
   go_wp2_with fail
   go_ret
   refine ⟨by rw [HV.out];rfl,?_,fun B'=>(HK.out B').drewN _⟩
   rw [HA.out]
   refine H.out.kb ((HK.out B).drewN _) ?_ (by omega)
   rw [Int.natCast_add]
   exact HBW.out
 ·have hV:nextV l a n=0:=if_neg (by omega)
  have hA:nextA l a=a:=if_neg (by omega)
  have HV:=Lib.hid hV
  have HA:=Lib.hid hA
  have hnl:¬(a:Int)<(l.length:Int):=by omega
  clear hV hA hn hn2
  go_enter Tryz.func33,Tryz.ntmps33
  go_wp2_with fail
  go_quiet (fail)
  go_wp2_with fail
  go_ret
  refine ⟨by rw [HV.out];rfl,?_,fun B'=>(KB.refl B' g w).drewN _⟩
  rw [HA.out]
  exact H.out.kb ((KB.refl B g w).drewN _) H.out.blk H.out.pos
set_option maxRecDepth 100000 in
theorem range_any (B g:Nat) (w:World) (L:Value) (l:List Int) (a:Nat) (lo hi:Int) (h:TapeAt B g w L l a) (h1:lo≤hi) (h2: -1000000≤lo) (h3:hi≤1000000):Calls Tryz.prog 32 #[.pointer (some ⟨g,0,none⟩),.int .i64 lo,.int .i64 hi] w fun e w'=>e= .returned (.int .i64 (lo+nextV l a (hi-lo+1)))∧TapeAt B g w' L l (nextA l a)∧(∀B',KB B' g w w'):=by
 have HN:=Lib.hid (next_any B g w L l a (hi-lo+1) h (by omega) (by omega))
 have hr:=nextV_range (l:=l) (a:=a) (n:=hi-lo+1) (by omega)
 have hw0:IntKind.i64.wrap (hi-lo)=hi-lo:=IntWalk.i64_in _ (by omega)
 have hw1:IntKind.i64.wrap (hi-lo+1)=hi-lo+1:=IntWalk.i64_in _ (by omega)
 generalize nextV l a (hi-lo+1)=x at *
 have hw2:IntKind.i64.wrap (lo+x)=lo+x:=IntWalk.i64_in _ (by omega)
 clear h
 go_enter Tryz.func32,Tryz.ntmps32
 go_wp2_with fail
 refine HN.out.mono ?_
 rintro e w2 ⟨rfl,ht,hk⟩
 have HTT:=Lib.hid ht
 have HK:=Lib.hid hk
 clear ht hk
 go_wp2_with fail
 go_ret
 exact ⟨rfl,HTT.out,HK.out⟩
theorem new_any (w:World) (v:Value) (l:List Int) (h:ArrI w v l) (hn:l.length≤1000000):Calls Tryz.prog 9 #[v] w fun e w'=>e= .returned (.pointer (some ⟨w.heap.size,0,none⟩))∧TapeAt (w.heap.size+1) w.heap.size w' v l 0∧Ext w w'∧w'.heap.size=w.heap.size+1:=by
 have H:=Lib.hid h
 obtain ⟨A,c,rfl,_⟩:=h.open
 clear h
 go_enter Tryz.func9,Tryz.ntmps9
 go_wp2_with fail
 go_ret
 refine ⟨rfl,⟨Blk.new w _ _,H.out.ext ((Ext.refl w).alloc _),fun h0 b hb=> ?_,by omega,Nat.zero_le _,hn⟩,(Ext.refl w).alloc _,by simp⟩
 have:=H.out.lt h0 b hb
 omega
theorem light_any (w:World) (v:Value) (l:List Int) (h:ArrI w v l):Calls Tryz.prog 7 #[v] w fun e w'=>e= .returned (.bool (decide (l.length≤120)))∧w=w':=by
 obtain ⟨A,c,rfl,_⟩:=h.open
 have hx:decide ((l.length:Int)≤120)=decide (l.length≤120):=by
  rw [decide_eq_decide]
  omega
 have HX:=Lib.hid hx
 clear h hx
 go_enter Tryz.func7,Tryz.ntmps7
 go_wp2_with fail
 go_ret
 exact ⟨by rw [←HX.out];rfl,rfl⟩
end Big
end Go.Proofs.YtaccjdbbkmhanaaGreatDoor
namespace Go.Proofs.YtaccjdbbkmhanaaGreatDoor
namespace Big
open Go.RowKit
theorem isDigit_any (w:World) (n:Nat) (hn:n<256):Calls Tryz.prog 124 #[.int .u8 (n:Int)] w fun e w'=>e= .returned (.bool (digN n))∧w=w':=by
 have e1:decide ((48:Int)≤(n:Int))=decide (48≤n):=by rw [decide_eq_decide];omega
 have e2:decide ((n:Int)≤57)=decide (n≤57):=by rw [decide_eq_decide];omega
 have H:Hid (digN n=(decide ((48:Int)≤(n:Int)) && decide ((n:Int)≤57))):=Lib.hid (by rw [e1,e2];rfl)
 clear e1 e2
 cases b1:decide ((48:Int)≤(n:Int))<;>cases b2:decide ((n:Int)≤57)
 all_goals first|(exfalso;simp only [decide_eq_false_iff_not,decide_eq_true_eq] at b1 b2;omega)|skip
 all_goals
  rw [b1,b2] at H
  go_enter Tryz.func124,Tryz.ntmps124
  go_wp2_with fail
  go_ret
  rw [H.out]
  exact ⟨rfl,rfl⟩
theorem rdigit_any (w:World) (n:Nat) (hn:n<256):Calls Tryz.prog 67 #[.int .u8 (n:Int)] w fun e w'=>e= .returned (.bool (digN n))∧w=w':=by
 have e1:decide ((48:Int)≤(n:Int))=decide (48≤n):=by rw [decide_eq_decide];omega
 have e2:decide ((n:Int)≤57)=decide (n≤57):=by rw [decide_eq_decide];omega
 have H:Hid (digN n=(decide ((48:Int)≤(n:Int)) && decide ((n:Int)≤57))):=Lib.hid (by rw [e1,e2];rfl)
 clear e1 e2
 cases b1:decide ((48:Int)≤(n:Int))<;>cases b2:decide ((n:Int)≤57)
 all_goals first|(exfalso;simp only [decide_eq_false_iff_not,decide_eq_true_eq] at b1 b2;omega)|skip
 all_goals
  rw [b1,b2] at H
  go_enter Tryz.func67,Tryz.ntmps67
  go_wp2_with fail
  go_ret
  rw [H.out]
  exact ⟨rfl,rfl⟩
theorem isLetter_any (w:World) (n:Nat) (hn:n<256):Calls Tryz.prog 101 #[.int .u8 (n:Int)] w fun e w'=>e= .returned (.bool (letN n))∧w=w':=by
 have e1:decide ((97:Int)≤(n:Int))=decide (97≤n):=by rw [decide_eq_decide];omega
 have e2:decide ((n:Int)≤122)=decide (n≤122):=by rw [decide_eq_decide];omega
 have e3:decide ((65:Int)≤(n:Int))=decide (65≤n):=by rw [decide_eq_decide];omega
 have e4:decide ((n:Int)≤90)=decide (n≤90):=by rw [decide_eq_decide];omega
 have H:Hid (letN n=((decide ((97:Int)≤(n:Int)) && decide ((n:Int)≤122)) || (decide ((65:Int)≤(n:Int)) && decide ((n:Int)≤90)))):=Lib.hid (by rw [e1,e2,e3,e4];rfl)
 clear e1 e2 e3 e4
 cases b1:decide ((97:Int)≤(n:Int))<;>cases b2:decide ((n:Int)≤122)<;>cases b3:decide ((65:Int)≤(n:Int))<;>cases b4:decide ((n:Int)≤90)
 all_goals first|(exfalso;simp only [decide_eq_false_iff_not,decide_eq_true_eq] at b1 b2 b3 b4;omega)|skip
 all_goals
  rw [b1,b2,b3,b4] at H
  go_enter Tryz.func101,Tryz.ntmps101
  go_wp2_with fail
  go_ret
  rw [H.out]
  exact ⟨rfl,rfl⟩
theorem rletter_any (w:World) (n:Nat) (hn:n<256):Calls Tryz.prog 65 #[.int .u8 (n:Int)] w fun e w'=>e= .returned (.bool (letN n))∧w=w':=by
 have e1:decide ((97:Int)≤(n:Int))=decide (97≤n):=by rw [decide_eq_decide];omega
 have e2:decide ((n:Int)≤122)=decide (n≤122):=by rw [decide_eq_decide];omega
 have e3:decide ((65:Int)≤(n:Int))=decide (65≤n):=by rw [decide_eq_decide];omega
 have e4:decide ((n:Int)≤90)=decide (n≤90):=by rw [decide_eq_decide];omega
 have H:Hid (letN n=((decide ((97:Int)≤(n:Int)) && decide ((n:Int)≤122)) || (decide ((65:Int)≤(n:Int)) && decide ((n:Int)≤90)))):=Lib.hid (by rw [e1,e2,e3,e4];rfl)
 clear e1 e2 e3 e4
 cases b1:decide ((97:Int)≤(n:Int))<;>cases b2:decide ((n:Int)≤122)<;>cases b3:decide ((65:Int)≤(n:Int))<;>cases b4:decide ((n:Int)≤90)
 all_goals first|(exfalso;simp only [decide_eq_false_iff_not,decide_eq_true_eq] at b1 b2 b3 b4;omega)|skip
 all_goals
  rw [b1,b2,b3,b4] at H
  go_enter Tryz.func65,Tryz.ntmps65
  go_wp2_with fail
  go_ret
  rw [H.out]
  exact ⟨rfl,rfl⟩
theorem inWord_any (w:World) (n:Nat) (hn:n<256):Calls Tryz.prog 102 #[.int .u8 (n:Int)] w fun e w'=>e= .returned (.bool (wordN n))∧w=w':=by
 have H:Hid (wordN n=(letN n || digN n || n == 95)):=Lib.hid rfl
 have HL:=Lib.hid (fun W=>isLetter_any W n hn)
 have HD:=Lib.hid (fun W=>isDigit_any W n hn)
 have hi:((n:Int) == 95)=(n == 95):=by rw [Bool.eq_iff_iff];simp;omega
 have HI:=Lib.hid hi
 clear hi
 cases h1:letN n
 ·cases h2:digN n
  ·rw [h1] at HL H
   rw [h2] at HD H
   clear h1 h2
   cases h3:(n == 95)
   all_goals
    have hb:=HI.out
    rw [h3] at hb
    rw [h3] at H
    clear h3
    go_enter Tryz.func102,Tryz.ntmps102
    go_wp2_with fail
    refine (HL.out _).mono ?_
    rintro e w1 ⟨rfl,rfl⟩
    go_wp2_with fail
    refine (HD.out _).mono ?_
    rintro e w1 ⟨rfl,rfl⟩
    go_wp2_with fail
    go_ret
    rw [H.out]
    exact ⟨rfl,rfl⟩
  ·rw [h1] at HL H
   rw [h2] at HD H
   clear h1 h2
   go_enter Tryz.func102,Tryz.ntmps102
   go_wp2_with fail
   refine (HL.out _).mono ?_
   rintro e w1 ⟨rfl,rfl⟩
   go_wp2_with fail
   refine (HD.out _).mono ?_
   rintro e w1 ⟨rfl,rfl⟩
   go_wp2_with fail
   go_ret
   rw [H.out]
   exact ⟨rfl,rfl⟩
 ·rw [h1] at HL H
  clear h1
  go_enter Tryz.func102,Tryz.ntmps102
  go_wp2_with fail
  refine (HL.out _).mono ?_
  rintro e w1 ⟨rfl,rfl⟩
  go_wp2_with fail
  go_ret
  rw [H.out]
  exact ⟨rfl,rfl⟩
end Big
end Go.Proofs.YtaccjdbbkmhanaaGreatDoor
