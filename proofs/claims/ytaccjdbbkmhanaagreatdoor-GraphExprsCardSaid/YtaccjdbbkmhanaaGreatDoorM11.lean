import Derived.Test.YtaccjdbbkmhanaaGreatDoorM6
import Derived.Test.YtaccjdbbkmhanaaGreatDoorM4
import Derived.Test.YtaccjdbbkmhanaaGreatDoorM5
import Derived.RegionTactic
import Derived.ChangeAlike
import Derived.Test.YtaccjdbbkmhanaaGreatDoorM1
namespace Go.Proofs.YtaccjdbbkmhanaaGreatDoor
namespace Big
open Go.RowKit
end Big
end Go.Proofs.YtaccjdbbkmhanaaGreatDoor
namespace Go.Proofs.YtaccjdbbkmhanaaGreatDoor
namespace Big
open Go.RowKit
def QuoAt (w0 wr:World) (xs:List Nat) (d k r:Nat):Prop:=
 ∃qs:List Nat,k+qs.length=xs.length∧Ok qs∧val qs*d+r=val (xs.drop k)∧
  Blk wr w0.heap.size 129 (cells (List.replicate k 0++qs))∧Ext w0 wr
theorem QuoAt.step {w0 wr:World} {xs qs:List Nat} {d k r y:Nat} (hl:k+1+qs.length=xs.length) (hok:Ok qs) (hy:y<4294967296)
  (hv:val (y::qs)*d+r=val (xs.drop k))
  (hb:Blk wr w0.heap.size 129 (cells (List.replicate (k+1) 0++qs))) (he:Ext w0 wr):
  QuoAt w0 (wr.setCell ⟨w0.heap.size,k,none⟩ (d32 y)) xs d k r:=by
 refine ⟨y::qs,by simp;omega,ok_cons hy hok,hv,?_,he.setCell (Nat.le_refl _) _⟩
 have h1:=hb.set_ k (d32 y)
 rw [set_cells,set_back] at h1
 exact h1
theorem qsmall_any (w:World) (v:Value) (xs:List Nat) (d:Nat) (h:Arr w v xs) (hn:xs.length≤536870912) (hd0:0<d) (hd:d<4294967296):
  Calls Tryz.prog 167 #[v,.int .u32 (d:Int)] w fun e w'=>∃v',e= .returned (.tuple #[v',.int .u32 ((val xs % d:Nat):Int),.bool true])∧Own w.heap.size w' v' (limbs (val xs / d))∧Ext w w':=by
 have HA:=Lib.hid h
 obtain ⟨hok,A,cap,rfl,hcap,hmx,hcell⟩:=h.open
 have HM:=Lib.hid hmx
 have HC:=Lib.hid hcell
 have hmk:=run_make32 xs.length (by omega)
 have HMK:=Lib.hid hmk
 clear h hcell hmx hcap
 have hdb:((d:Int) == 0)=false:=by rw [beq_eq_false_iff_ne];omega
 go_enter Tryz.func167,Tryz.ntmps167
 go_wp2_with fail
 clear hmk
 go_loopw [8,9] (fun rv i wr=>∃k r:Nat,k≤xs.length∧r<d∧i= .int .i64 ((k:Int)-1)∧rv= .int .u64 r∧QuoAt w wr xs d k r) (fun _ i _=>(intOf i+1).toNat)
 case atStart=>exact ⟨xs.length,0,Nat.le_refl _,hd0,rfl,rfl,[],rfl,ok_nil,by simp [val],by simpa [zeros_cells] using Blk.new w 129 (zeros xs.length),(Ext.refl w).alloc _⟩
 case round=>
  obtain ⟨k,r,hk,hr,rfl,rfl,qs,hl,hok',hv,hblk,hext⟩:=hrel
  have HV:=Lib.hid hv;clear hv
  have HB:=Lib.hid hblk;clear hblk
  have HL:=Lib.hid hl;clear hl
  rcases Nat.eq_zero_or_pos k with h0|h0
  ·subst h0
   obtain ⟨hq1,hq2⟩:=quo_end hr (by simpa using HV.out)
   have hlen:qs.length=xs.length:=by simpa using HL.out
   have hlast:Own w.heap.size wr (.slice (some ⟨w.heap.size,0,none⟩) xs.length xs.length) qs:=by
    have h3:=Own.block (B:=w.heap.size) hok' (by simpa using HB.out) (Nat.le_refl _) (by omega)
    rwa [hlen] at h3
   have HT:=Lib.hid (trim_any _ _ _ hlast.arr (by omega))
   rw [hq1] at HT
   have hrm:(r:Int) % 4294967296=((val xs % d:Nat):Int):=by omega
   have HR:=Lib.hid hrm
   have HR2:=Lib.hid hq2
   clear hrm hq1 hq2 hlast hlen
   go_wp2_with fail
   refine HT.out.mono ?_
   rintro e w' ⟨v',rfl,ho,hx⟩
   go_wp2_with fail
   go_ret3
   first
    |exact ⟨_,congrArg (fun z:Int=>Ending.returned (.tuple #[v',.int .u32 z,.bool true])) HR.out,ho.mono hext.size,hext.trans hx⟩
    |exact ⟨_,congrArg (fun z:Nat=>Ending.returned (.tuple #[v',.int .u32 (z:Int),.bool true])) HR2.out,ho.mono hext.size,hext.trans hx⟩
  ·obtain ⟨m,rfl⟩:∃m,k=m+1:=⟨k-1,by omega⟩
   obtain ⟨b,o,rfl,hb,hcell⟩:=HC.out (by omega)
   have hx:=(hext.cell hb).trans (hcell m (by omega))
   have hst:=HB.out.cell m
   have hfz:=HB.out.frozen m
   rw [get_cells _ _ (by simp;omega)] at hst
   clear hcell
   have hxm:=hok.get m
   have HS:=Lib.hid (quo_step xs qs m d r (by omega) HV.out)
   have hq:=quo_lt hr hxm
   have hrr:=Nat.mod_lt (r*4294967296+xs.getD m 0) hd0
   obtain ⟨x,hxe⟩:∃x,xs.getD m 0=x:=⟨_,rfl⟩
   rw [hxe] at hx hxm HS hq hrr
   clear hxe
   have hor:=or_low r x (by omega) hxm
   have hNb:r*4294967296+x<18446744073709551616:=by omega
   obtain ⟨N,hNe⟩:∃N,r*4294967296+x=N:=⟨_,rfl⟩
   rw [hNe] at hor HS hq hrr hNb
   clear hNe
   have hdiv:(N:Int) / (d:Int)=((N / d:Nat):Int):=(Int.natCast_ediv N d).symm
   have hmod:(N:Int) % (d:Int)=((N % d:Nat):Int):=(Int.natCast_emod N d).symm
   obtain ⟨y,hy⟩:∃y,N / d=y:=⟨_,rfl⟩
   obtain ⟨z,hz⟩:∃z,N % d=z:=⟨_,rfl⟩
   rw [hy] at hdiv HS hq
   rw [hz] at hmod HS hrr
   clear hy hz
   have HDM:=Lib.hid (show (y:Int) % 4294967296=(y:Int) by omega)
   simp only [d32] at hx hst
   go_wp2
   go_round
   case rel=>
    refine ⟨m,z,by omega,hrr,rfl,by rw [hmod],?_⟩
    exact QuoAt.step HL.out hok' hq HS.out HB.out hext
   case measure=>simp [intOf]
end Big
end Go.Proofs.YtaccjdbbkmhanaaGreatDoor
namespace Go.Proofs.YtaccjdbbkmhanaaGreatDoor
namespace Big
open Go.RowKit
def RevAt (w0 wr:World) (B g:Nat) (bs:List UInt8) (c k:Nat):Prop:=
 ∃cur:Array Value,Blk wr g 5 cur∧cur.size=c∧Below B w0 wr∧
  (∀p,p<bs.length→cur[p]? =some (d8 (if p<k∨bs.length-k≤p then bs.getD (bs.length-1-p) 0 else bs.getD p 0)))
theorem RevAt.step {w0 wr:World} {B g:Nat} {bs:List UInt8} {c k:Nat} (h:RevAt w0 wr B g bs c k) (hB:B≤g) (hc:bs.length≤c) (hk:k<bs.length-1-k):
  RevAt w0 (((wr.setCell ⟨g,k,none⟩ (d8 (bs.getD (bs.length-1-k) 0))).setCell ⟨g,bs.length-1-k,none⟩ (d8 (bs.getD k 0)))).drew B g bs c (k+1):=by
 obtain ⟨cur,h1,h2,h3,h4⟩:=h
 refine ⟨_,((h1.set_ k _).set_ (bs.length-1-k) _).drew,by simp [h2],((h3.setCell hB _).setCell hB _).drew,fun p hp=> ?_⟩
 rw [Array.getElem?_setIfInBounds,Array.getElem?_setIfInBounds]
 by_cases e1:bs.length-1-k=p
 ·subst e1
  rw [if_pos rfl,if_pos (by simp;omega)]
  rw [if_pos (by omega)]
  congr 3
  omega
 ·rw [if_neg e1]
  by_cases e2:k=p
  ·subst e2
   rw [if_pos rfl,if_pos (by omega),if_pos (by omega)]
  ·rw [if_neg e2,h4 p hp]
   by_cases e3:p<k∨bs.length-k≤p
   ·rw [if_pos e3,if_pos (by omega)]
   ·rw [if_neg e3,if_neg (by omega)]
end Big
end Go.Proofs.YtaccjdbbkmhanaaGreatDoor
namespace Go.Proofs.YtaccjdbbkmhanaaGreatDoor
namespace Big
open Go.RowKit
def DigAt (w0 wr:World) (out:Value) (N q k r:Nat):Prop:=
 ∃bs:List UInt8,Own8 w0.heap.size wr out bs∧low N=bs++low (q*10 ^ (9-k)+r)∧r<10 ^ (9-k)∧Ext w0 wr
theorem DigAt.step {w0 wr':World} {out':Value} {N q k r:Nat} {bs:List UInt8} (hl:low N=bs++low (q*10 ^ (9-k)+r)) (hr:r<10 ^ (9-k)) (hk:k<9) (h0:q≠0∨r≠0)
  (ho:Own8 w0.heap.size wr' out' (bs++[UInt8.ofNat (48+r % 10)])) (he:Ext w0 wr'):DigAt w0 wr' out' N q (k+1) (r / 10):=by
 obtain ⟨h1,h2⟩:=low_group q r k hk hr h0
 exact ⟨_,ho,by rw [hl,h1,List.append_assoc];rfl,h2,he⟩
theorem DigAt.done {w0 wr:World} {out:Value} {N q k r:Nat} (h:DigAt w0 wr out N q k r) (hk:k=9∨q=0∧r=0):∃bs,Own8 w0.heap.size wr out bs∧low N=bs++low q∧Ext w0 wr:=by
 obtain ⟨bs,h1,h2,h3,h4⟩:=h
 refine ⟨bs,h1,?_,h4⟩
 rcases hk with rfl|⟨rfl,rfl⟩
 ·rw [h2,group_end q r h3]
 ·rw [h2,Nat.zero_mul]
end Big
end Go.Proofs.YtaccjdbbkmhanaaGreatDoor
