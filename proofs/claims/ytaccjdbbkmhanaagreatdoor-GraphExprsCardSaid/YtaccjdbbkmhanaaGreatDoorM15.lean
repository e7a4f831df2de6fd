import Derived.Test.YtaccjdbbkmhanaaGreatDoorM14
import Derived.Test.YtaccjdbbkmhanaaGreatDoorM7
import Derived.Test.YtaccjdbbkmhanaaGreatDoorM2
import Derived.Test.YtaccjdbbkmhanaaGreatDoorM8
import Derived.Test.YtaccjdbbkmhanaaGreatDoorM12
import Derived.Test.YtaccjdbbkmhanaaGreatDoorM11
import Derived.Test.YtaccjdbbkmhanaaGreatDoorShelf
import Derived.Test.YtaccjdbbkmhanaaGreatDoorM6
import Derived.Deep.RegionHeld3
namespace Go.Proofs.YtaccjdbbkmhanaaGreatDoor
namespace Big
open Go.RowKit
end Big
end Go.Proofs.YtaccjdbbkmhanaaGreatDoor
namespace Go.Proofs.YtaccjdbbkmhanaaGreatDoor
namespace Big
open Go.RowKit
end Big
end Go.Proofs.YtaccjdbbkmhanaaGreatDoor
namespace Go.Proofs.YtaccjdbbkmhanaaGreatDoor
namespace Big
open Go.RowKit
def ShrAt (w0 wr:World) (N M k:Nat) (zs:List Nat):Prop:=
 zs.length=k∧Ok zs∧val zs=N % 4294967296 ^ k∧Blk wr w0.heap.size 129 (cells (zs++List.replicate (M-k) 0))∧Ext w0 wr
theorem ShrAt.step {w0 wr:World} {xs zs:List Nat} {d s M N k y:Nat} (h:ShrAt w0 wr N M k zs) (hk:k<M) (hs:s≤31) (hok:Ok xs) (hN:N=val (xs.drop d) / 2 ^ s) (hy:y=xs.getD (k+d) 0+4294967296*xs.getD (k+d+1) 0):
  ShrAt w0 (wr.setCell ⟨w0.heap.size,k,none⟩ (d32 (y / 2 ^ s % 4294967296))) N M (k+1) (zs++[y / 2 ^ s % 4294967296]):=by
 obtain ⟨hl,hoz,hv,hb,he⟩:=h
 have h0:=shr_step (hok.drop d) hN hs hl hv
 rw [getD_drop,getD_drop,show d+k=k+d by omega,show d+(k+1)=k+d+1 by omega,←hy] at h0
 refine ⟨by simp [hl],hoz.snoc (Nat.mod_lt _ (by omega)),h0,?_,he.setCell (Nat.le_refl _) _⟩
 have h1:=hb.set_ k (d32 (y / 2 ^ s % 4294967296))
 rw [set_cells,show M-k=(M-(k+1))+1 by omega] at h1
 have h2:=set_front zs (M-(k+1)) (y / 2 ^ s % 4294967296)
 rw [hl] at h2
 rwa [h2] at h1
set_option maxHeartbeats 1000000 in
theorem shr_any (w:World) (v:Value) (xs:List Nat) (n:Nat) (h:Arr w v xs) (hl:xs.length≤268435456) (hn:n≤1048576):
  Calls Tryz.prog 171 #[v,.int .i64 (n:Int)] w fun e w'=>∃v',e= .returned v'∧Own w.heap.size w' v' (limbs (val xs / 2 ^ n))∧Ext w w':=by
 have HA:=Lib.hid h
 have HP:=Lib.hid (places_any w n hn)
 obtain ⟨hok,A,cap,rfl,hcap,hmx,hcell⟩:=h.open
 have HC:=Lib.hid hcell
 have HM:=Lib.hid hmx
 obtain ⟨d,s,hd,hs,hnd⟩:∃d s,d≤32768∧s≤31∧n=32*d+s:=⟨n / 32,n % 32,by omega,by omega,by omega⟩
 have HND:=Lib.hid hnd
 have hq:(n:Int) / 32=(d:Int):=by omega
 have hr:(n:Int) % 32=(s:Int):=by omega
 clear h hcell hmx hnd
 rcases Nat.lt_or_ge d xs.length with h0|h0
 ·obtain ⟨M,hMe⟩:∃M,xs.length=d+M:=⟨xs.length-d,by omega⟩
  have hmk:=run_make32 M (by omega)
  have hsub:(xs.length:Int)-(d:Int)=(M:Int):=by omega
  have hlt0:¬(xs.length:Int)≤(d:Int):=by omega
  obtain ⟨N,hN⟩:∃N,N=val (xs.drop d) / 2 ^ s:=⟨_,rfl⟩
  have HN:=Lib.hid hN
  clear hN
  have HPOW:=Lib.hid (pow_le32 s hs)
  have HLE:=Lib.hid hMe
  have hM0:0<M:=by omega
  clear hMe
  go_enter Tryz.func171,Tryz.ntmps171
  go_wp2_with fail
  refine HP.out.mono ?_
  rintro e w' ⟨rfl,rfl⟩
  go_wp2_with fail
  clear hmk hsub
  go_loopw [28] (fun i wr=>∃(k:Nat) (zs:List Nat),k≤M∧i= .int .i64 k∧ShrAt w wr N M k zs) (fun i _=>M-(intOf i).toNat)
  case atStart=>exact ⟨0,[],Nat.zero_le _,rfl,rfl,ok_nil,by simp [val,Nat.mod_one],Blk.new _ _ _,(Ext.refl w).alloc _⟩
  case round=>
   obtain ⟨k,zs,hk,rfl,hat⟩:=hrel
   by_cases hlt:k<M
   ·have hMe:=HLE.out
    obtain ⟨b,o,rfl,hb,hcell⟩:=HC.out (by omega)
    have HSTEP:=Lib.hid (fun y h=>ShrAt.step (y:=y) hat hlt hs hok HN.out h)
    obtain ⟨hlz,hoz,hv,hbk,hext⟩:=hat
    have hx:=(hext.cell hb).trans (hcell (k+d) (by omega))
    have hst:=hbk.cell k
    have hfz:=hbk.frozen k
    rw [get_cells _ _ (by simp;omega)] at hst
    have hxm:=hok.get (k+d)
    have hPI:(2:Int) ^ s=((2 ^ s:Nat):Int):=by simp
    have hPP:0<2 ^ s:=Nat.pow_pos (by omega)
    obtain ⟨P,hP⟩:∃P,2 ^ s=P:=⟨_,rfl⟩
    rw [hP] at hPI HSTEP hPP
    clear hP
    generalize (zs++List.replicate (M-k) 0).getD k 0=z at hst
    clear hbk hv hoz hlz
    have HX:=Lib.hid hext
    by_cases h2:k+d+1<xs.length
    ·have hy:=(hext.cell hb).trans (hcell (k+d+1) h2)
     have hym:=hok.get (k+d+1)
     have HST:=Lib.hid (HSTEP.out _ rfl)
     clear hcell hext HSTEP hMe
     obtain ⟨x,hxe⟩:∃x,xs.getD (k+d) 0=x:=⟨_,rfl⟩
     obtain ⟨y,hye⟩:∃y,xs.getD (k+d+1) 0=y:=⟨_,rfl⟩
     rw [hxe] at hx hxm HST
     rw [hye] at hy hym HST
     clear hxe hye
     have hbo:bits .or .u64 (x:Int) ((y:Int)*4294967296)=((x+4294967296*y:Nat):Int):=by
      rw [show (y:Int)*4294967296=((y*4294967296:Nat):Int) by omega,bits_or_u64_nat _ _ (by omega) (by omega)]
      have h3:=Nat.shiftLeft_add_eq_or_of_lt (i:=32) (b:=x) (by omega) y
      rw [Nat.shiftLeft_eq] at h3
      rw [Nat.or_comm,show y*4294967296=y*2 ^ 32 from rfl,←h3]
      omega
     have hrm:x+4294967296*y<18446744073709551616:=by omega
     obtain ⟨t,ht⟩:∃t,x+4294967296*y=t:=⟨_,rfl⟩
     rw [ht] at hbo hrm HST
     clear ht
     simp only [d32] at hx hst hy
     go_wp2_with fail
     go_roundw
     case rel=>exact ⟨k+1,_,by omega,by go_num,HST.out⟩
     case measure=>simp [intOf];omega
    ·have h0:xs.getD (k+d+1) 0=0:=getD_ge xs _ (by omega)
     have HST:=Lib.hid (HSTEP.out (xs.getD (k+d) 0) (by rw [h0];omega))
     clear hcell hext HSTEP h0
     have h2':¬(k:Int)+(d:Int)+1<(xs.length:Int):=by omega
     have h3:(k:Int)+(d:Int)<(xs.length:Int):=by omega
     clear h2 hMe
     obtain ⟨x,hxe⟩:∃x,xs.getD (k+d) 0=x:=⟨_,rfl⟩
     rw [hxe] at hx hxm HST
     clear hxe
     simp only [d32] at hx hst
     go_wp2_with fail
     go_roundw
     case rel=>exact ⟨k+1,_,by omega,by go_num,HST.out⟩
     case measure=>simp [intOf];omega
   ·obtain rfl:k=M:=by omega
    obtain ⟨hlz,hoz,hv,hbk,hext⟩:=hat
    rw [Nat.sub_self,List.replicate_zero,List.append_nil] at hbk
    have hMe:=HLE.out
    have hlast:Own w.heap.size wr (.slice (some ⟨w.heap.size,0,none⟩) k k) zs:=by
     have h3:=Own.block (B:=w.heap.size) hoz hbk (Nat.le_refl _) (by rw [hlz];omega)
     rwa [hlz] at h3
    have hval:val zs=val xs / 2 ^ n:=by
     rw [HND.out,←shr_drop hok,←HN.out]
     refine shr_end (hok.drop d) HN.out ?_
     rw [hv,List.length_drop,hMe,Nat.add_sub_cancel_left]
    have HT2:=Lib.hid (size_any _ _ _ hlast.arr)
    have hsz:=size_le zs
    obtain ⟨A1,c1,hv1,HO⟩:=hlast.take (size zs) hsz
    rw [take_size hlast.ok,hval] at HO
    rw [hlz] at hsz
    injection hv1 with hv1 hv3 hv2
    clear hv3
    subst hv1
    subst hv2
    have HO:=Lib.hid HO
    generalize size zs=sz at *
    clear hval hlast hbk hv hlz hMe
    go_wp2_with fail
    refine HT2.out.mono ?_
    rintro e w' ⟨rfl,rfl⟩
    go_wp2_with fail
    go_ret
    exact ⟨_,rfl,HO.out,hext⟩
 ·have HZ:val xs / 2 ^ n=0:=by rw [HND.out];exact shr_none hok h0
  rw [HZ]
  clear HZ
  have hge:(xs.length:Int)≤(d:Int):=by omega
  go_enter Tryz.func171,Tryz.ntmps171
  go_wp2_with fail
  refine HP.out.mono ?_
  rintro e w' ⟨rfl,rfl⟩
  go_wp2_with fail
  go_ret
  exact ⟨_,rfl,Own.none_ _ _,Ext.refl _⟩
end Big
end Go.Proofs.YtaccjdbbkmhanaaGreatDoor
namespace Go.Proofs.YtaccjdbbkmhanaaGreatDoor
namespace Big
open Go.RowKit
theorem lead_any (w:World) (x:Nat) (hx:x<4294967296):Calls Tryz.prog 168 #[.int .u32 (x:Int)] w fun e w'=>∃s:Nat,s≤32∧e= .returned (.int .i64 (s:Int))∧w=w':=by
 have h:=Tryz.bits_LeadingZeros32 (x:Int) w (by omega) (by omega)
 refine h.mono ?_
 rintro e w' ⟨rfl,rfl⟩
 have h2:=Any.bitLen_le32 (x:Int) (by omega) (by omega)
 refine ⟨32-Lib.bitLen (x:Int).toNat,by omega,?_,rfl⟩
 congr 2
 omega
theorem limbs_ge {n:Nat} (h:n≠0):4294967296 ^ ((limbs n).length-1)≤n:=by
 induction n using Nat.strongRecOn with
 |_ n ih=>
  rw [limbs_pos n h,List.length_cons,Nat.add_sub_cancel]
  by_cases h0:n / 4294967296=0
  ·rw [h0,limbs_zero]
   simp
   omega
  ·have h1:=ih (n / 4294967296) (by omega) h0
   obtain ⟨m,hm⟩:∃m,(limbs (n / 4294967296)).length=m+1:=by
    rw [limbs_pos _ h0,List.length_cons]
    exact ⟨_,rfl⟩
   rw [hm] at h1 ⊢
   rw [Nat.add_sub_cancel] at h1
   rw [Nat.pow_succ]
   have:=Nat.mul_le_mul_right 4294967296 h1
   omega
theorem limbs_top {n:Nat} (h:n≠0):1≤(limbs n).getD ((limbs n).length-1) 0:=by
 rcases Nat.eq_zero_or_pos ((limbs n).getD ((limbs n).length-1) 0) with h0|h0
 ·exfalso
  have hl:0<(limbs n).length:=by
   rw [limbs_pos n h,List.length_cons];omega
  have h1:=val_take' (limbs n) ((limbs n).length-1)
  rw [Nat.sub_add_cancel hl,List.take_of_length_le (Nat.le_refl _),val_limbs,h0,Nat.mul_zero,Nat.add_zero] at h1
  have h2:=val_take_lt (ok_limbs n) ((limbs n).length-1)
  have h3:=limbs_ge h
  omega
 ·exact h0
theorem limbs_shl (X:Nat) {s:Nat} (hs:s≤32):(limbs (X*2 ^ s)).length≤(limbs X).length+1:=by
 refine length_limbs_le ?_
 have h1:=val_lt (ok_limbs X)
 rw [val_limbs] at h1
 have h2:2 ^ s≤4294967296:=Nat.le_trans (Nat.pow_le_pow_right (by omega) hs) (by decide)
 rw [Nat.pow_succ]
 exact Nat.lt_of_lt_of_le (Nat.mul_lt_mul_of_pos_right h1 (Nat.pow_pos (by omega))) (Nat.mul_le_mul_left _ h2)
def DivPost (A V:Nat) (w:World) (e:Ending) (w':World):Prop:=
 ∃v' u',e= .returned (.tuple #[v',u',.bool true])∧Own w.heap.size w' v' (limbs (A / V))∧Own w.heap.size w' u' (limbs (A % V))∧Ext w w'
set_option maxRecDepth 100000 in
theorem qdivmod_lt (w:World) (v u:Value) (xs ys:List Nat) (h:Arr w v xs) (h':Arr w u ys) (hn:xs.length≤134217728) (hn':ys.length≤134217728) (hlt:val xs<val ys):
  Calls Tryz.prog 146 #[v,u] w (DivPost (val xs) (val ys) w):=by
 have HA:=Lib.hid (trim_any w v xs h (by omega))
 have HB:=Lib.hid (fun W hx=>trim_any W u ys (h'.ext hx) (by omega))
 have HCM:=Lib.hid (fun W v u a b=>cmp_any W v u (limbs (val xs)) (limbs (val ys)) a b (Nat.le_trans (length_limbs_val h.ok) (by omega)) (Nat.le_trans (length_limbs_val h'.ok) (by omega)))
 rw [val_limbs,val_limbs,cmpI_lt hlt] at HCM
 have hl0:limbs (val ys)≠[]:=by rw [Ne,limbs_eq_nil];omega
 have hl1:0<(limbs (val ys)).length:=List.length_pos_iff.2 hl0
 have HQ:=Lib.hid (Nat.div_eq_of_lt hlt)
 have HR:=Lib.hid (Nat.mod_eq_of_lt hlt)
 clear h h' hlt hl0
 go_enter Tryz.func146,Tryz.ntmps146
 go_wp2_with fail
 refine HA.out.mono ?_
 rintro e w1 ⟨v1,rfl,ho1,hx1⟩
 have HX1:=Lib.hid hx1
 have HO1:=Lib.hid ho1
 obtain ⟨n1,A1,c1,rfl⟩:=ho1.shape
 clear ho1 hx1
 go_wp2_with fail
 refine (HB.out _ HX1.out).mono ?_
 rintro e w2 ⟨v2,rfl,ho2,hx2⟩
 have HO2:=Lib.hid ho2
 obtain ⟨n2,A2,c2,rfl⟩:=ho2.shape
 have hl:=ho2.len
 rw [←hl] at hl1
 have hlb:((n2:Int) == 0)=false:=by rw [beq_eq_false_iff_ne];omega
 have HX2:=Lib.hid (HX1.out.trans hx2)
 have HXX:=Lib.hid hx2
 clear ho2 hx2 hl
 go_wp2_with fail
 refine (HCM.out _ _ _ (HO1.out.arr.ext HXX.out) HO2.out.arr).mono ?_
 rintro e w3 ⟨rfl,hx3⟩
 have HX3:=Lib.hid (HX2.out.trans hx3)
 have HR3:=Lib.hid ((HO1.out.ext HXX.out).ext hx3)
 clear hx3
 go_wp2_with fail
 go_ret3
 exact ⟨_,_,rfl,by rw [HQ.out];exact Own.none_ _ _,by rw [HR.out];exact HR3.out,HX3.out⟩
set_option maxRecDepth 100000 in
theorem qdivmod_one (w:World) (v u:Value) (xs ys:List Nat) (h:Arr w v xs) (h':Arr w u ys) (hn:xs.length≤134217728) (hn':ys.length≤134217728) (hge:val ys≤val xs) (h1:(limbs (val ys)).length=1):
  Calls Tryz.prog 146 #[v,u] w (DivPost (val xs) (val ys) w):=by
 have HA:=Lib.hid (trim_any w v xs h (by omega))
 have HB:=Lib.hid (fun W hx=>trim_any W u ys (h'.ext hx) (by omega))
 have HCM:=Lib.hid (fun W v u a b=>cmp_any W v u (limbs (val xs)) (limbs (val ys)) a b (Nat.le_trans (length_limbs_val h.ok) (by omega)) (Nat.le_trans (length_limbs_val h'.ok) (by omega)))
 have hcm:¬cmpI (val xs) (val ys)<0:=by rw [cmpI_neg];omega
 rw [val_limbs,val_limbs] at HCM
 obtain ⟨d,hd⟩:∃d,limbs (val ys)=[d]:=List.length_eq_one_iff.1 h1
 have hdv:val ys=d:=by rw [←val_limbs (val ys),hd];simp [val]
 have hdm:d<4294967296:=ok_limbs (val ys) d (by rw [hd];simp)
 have hd0:0<d:=by
  rcases Nat.eq_zero_or_pos d with h0|h0
  ·rw [hdv,h0,limbs_zero] at h1;simp at h1
  ·exact h0
 have HSM:=Lib.hid (fun W v a=>qsmall_any W v (limbs (val xs)) d a (Nat.le_trans (length_limbs_val h.ok) (by omega)) hd0 hdm)
 rw [val_limbs] at HSM
 have HOF:=Lib.hid (fun W=>of_any W (val xs % d) (by have:=Nat.mod_lt (val xs) hd0;omega))
 have hrm:=Nat.mod_lt (val xs) hd0
 rw [hd] at HB
 rw [hdv]
 rw [hdv] at hcm HCM
 rw [show limbs d=[d] by rw [hdv] at hd;exact hd] at HCM
 clear h h' hge h1 hd hdv
 generalize cmpI (val xs) d=cc at *
 go_enter Tryz.func146,Tryz.ntmps146
 go_wp2_with fail
 refine HA.out.mono ?_
 rintro e w1 ⟨v1,rfl,ho1,hx1⟩
 have HX1:=Lib.hid hx1
 have HO1:=Lib.hid ho1
 obtain ⟨n1,A1,c1,rfl⟩:=ho1.shape
 clear ho1 hx1
 go_wp2_with fail
 refine (HB.out _ HX1.out).mono ?_
 rintro e w2 ⟨v2,rfl,ho2,hx2⟩
 have HO2:=Lib.hid ho2
 obtain ⟨n2,A2,c2,rfl⟩:=ho2.shape
 have hl:=ho2.len
 simp only [List.length_singleton] at hl
 subst hl
 have HX2:=Lib.hid (HX1.out.trans hx2)
 have HXX:=Lib.hid hx2
 clear ho2 hx2
 go_wp2_with fail
 refine (HCM.out _ _ _ (HO1.out.arr.ext HXX.out) HO2.out.arr).mono ?_
 rintro e w3 ⟨rfl,hx3⟩
 have HX3:=Lib.hid (HX2.out.trans hx3)
 have HR3:=Lib.hid ((HO1.out.ext HXX.out).ext hx3)
 obtain ⟨hk1,A2',c2',he,hk2,hk3,hcell⟩:=(HO2.out.ext hx3).arr.open
 injection he with e1 e3 e2
 subst e1 e2
 obtain ⟨b2,o2,rfl,hk4,hcell⟩:=hcell (by simp)
 have hx:=hcell 0 (by simp)
 simp only [Nat.add_zero,List.getD_cons_zero,d32] at hx
 clear hx3 hcell hk1 hk2 hk3 e3
 go_wp2_with fail
 refine (HSM.out _ _ HR3.out.arr).mono ?_
 rintro e w4 ⟨v4,rfl,ho4,hx4⟩
 have HX4:=Lib.hid (HX3.out.trans hx4)
 have HO4:=Lib.hid (ho4.mono HX3.out.size)
 obtain ⟨n4,A4,c4,rfl⟩:=ho4.shape
 clear ho4 hx4
 obtain ⟨r,hr⟩:∃r,val xs % d=r:=⟨_,rfl⟩
 have HRR:=Lib.hid hr
 rw [hr] at HOF hrm
 rw [hr]
 clear hr
 go_wp2_with fail
 refine (HOF.out _).mono ?_
 rintro e w5 ⟨v5,rfl,ho5,hx5⟩
 have HX5:=Lib.hid (HX4.out.trans hx5)
 have HO5:=Lib.hid (ho5.mono HX4.out.size)
 have HO4':=Lib.hid (HO4.out.ext hx5)
 obtain ⟨n5,A5,c5,rfl⟩:=ho5.shape
 clear ho5 hx5
 go_wp2_with fail
 go_ret3
 exact ⟨_,_,rfl,HO4'.out,by rw [HRR.out];exact HO5.out,HX5.out⟩
theorem Own.blockR {B:Nat} {w:World} {v:Value} {xs:List Nat} (h:Own B w v xs) (hp:0<xs.length):∃g c RX,v= .slice (some ⟨g,0,none⟩) xs.length c∧B≤g∧xs.length≤c∧c≤maxLen∧Blk w g 129 (cells xs++RX)∧xs.length+RX.size=c:=by
 obtain ⟨hok,A,c,rfl,h2,h3,h4⟩:=h
 rw [List.length_map] at h2 h4
 rcases h4 with ⟨h5,_⟩|⟨g,cur,rfl,hg,hblk,hs,ht⟩
 ·rw [List.map_eq_nil_iff] at h5
  subst h5
  simp at hp
 ·refine ⟨g,c,(cur.toList.drop xs.length).toArray,by rw [List.length_map],hg,h2,h3,?_,by simp;omega⟩
  have e:cells xs++(cur.toList.drop xs.length).toArray=cur:=by
   apply Array.ext'
   unfold cells
   rw [Array.toList_append]
   show xs.map d32++cur.toList.drop xs.length=cur.toList
   rw [←ht,List.take_append_drop]
  rw [e]
  exact hblk
theorem blkR_arr {w:World} {g c:Nat} {us:List Nat} {RX:Array Value} (h:Blk w g 129 (cells us++RX)) (hok:Ok us) (hc:us.length≤c) (hm:c≤maxLen):Arr w (.slice (some ⟨g,0,none⟩) us.length c) us:=
 Arr.mk hok hc hm fun _=>⟨g,0,rfl,h.lt,fun j hj=>by rw [h.cell,Nat.zero_add,get_cellsR _ _ _ hj]⟩
theorem Arr.put {w:World} {v:Value} {xs:List Nat} {g:Nat} (h:Arr w v xs) (hne:∀b o n c,v= .slice (some ⟨b,o,none⟩) n c→b≠g) (i:Nat) (u:Value):Arr (w.setCell ⟨g,i,none⟩ u) v xs:=
 h.kept (grown_set ((Dr.refl w).grown (some g)) i u) hne
theorem Arr.low {w:World} {v:Value} {xs:List Nat} {g:Nat} (h:Arr w v xs) (hp:0<xs.length) (hg:w.heap.size≤g):∀b o n c,v= .slice (some ⟨b,o,none⟩) n c→b≠g:=by
 obtain ⟨_,A,c,rfl,_,_,hcell⟩:=h.open
 obtain ⟨b,o,rfl,hb,_⟩:=hcell hp
 intro b' o' n' c' he
 injection he with h1 _ _
 injection h1 with h1
 injection h1 with h1 _ _
 omega
def DivLoop (w wr:World) (u0 us qs:List Nat) (V gu gq K:Nat) (RX:Array Value) (v:Value):Prop:=
 LongAt u0 us qs V K∧Ok qs∧Blk wr gq 129 (cells (List.replicate K 0++qs))∧Blk wr gu 129 (cells us++RX)∧Arr wr v (limbs V)∧Ext w wr
set_option maxHeartbeats 1000000 in
set_option maxRecDepth 100000 in
theorem qdivmod_long (w:World) (v u:Value) (xs ys:List Nat) (h:Arr w v xs) (h':Arr w u ys) (hn:xs.length≤134217728) (hn':ys.length≤134217728) (hge:val ys≤val xs) (h2:2≤(limbs (val ys)).length):
  Calls Tryz.prog 146 #[v,u] w (DivPost (val xs) (val ys) w):=by
 have HA:=Lib.hid (trim_any w v xs h (by omega))
 have HB:=Lib.hid (fun W hx=>trim_any W u ys (h'.ext hx) (by omega))
 have hla:(limbs (val xs)).length≤134217728:=Nat.le_trans (length_limbs_val h.ok) hn
 have hlb:(limbs (val ys)).length≤134217728:=Nat.le_trans (length_limbs_val h'.ok) hn'
 have HCM:=Lib.hid (fun W v u a b=>cmp_any W v u (limbs (val xs)) (limbs (val ys)) a b (by omega) (by omega))
 have HSHA:=Lib.hid (fun W v s a h=>shl_any W v (limbs (val xs)) s a (by omega) h)
 have HSHB:=Lib.hid (fun W v s a h=>shl_any W v (limbs (val ys)) s a (by omega) h)
 have hcm:¬cmpI (val xs) (val ys)<0:=by rw [cmpI_neg];omega
 rw [val_limbs,val_limbs] at HCM
 rw [val_limbs] at HSHA HSHB
 have hv0:val ys≠0:=fun e=>by rw [e,limbs_zero] at h2;simp at h2
 obtain ⟨X,hX⟩:∃X,val xs=X:=⟨_,rfl⟩
 obtain ⟨Y,hY⟩:∃Y,val ys=Y:=⟨_,rfl⟩
 rw [hX] at HA HCM hcm HSHA hge hla ⊢
 rw [hY] at HB HCM hcm HSHB hge h2 hv0 hlb ⊢
 clear h h' hX hY hn hn'
 generalize cmpI X Y=cc at *
 go_enter Tryz.func146,Tryz.ntmps146
 go_wp2_with fail
 refine HA.out.mono ?_
 rintro e w1 ⟨v1,rfl,ho1,hx1⟩
 have HX1:=Lib.hid hx1
 have HO1:=Lib.hid ho1
 obtain ⟨n1,A1,c1,rfl⟩:=ho1.shape
 clear ho1 hx1
 go_wp2_with fail
 refine (HB.out _ HX1.out).mono ?_
 rintro e w2 ⟨v2,rfl,ho2,hx2⟩
 have HO2:=Lib.hid ho2
 obtain ⟨m,hm⟩:∃m,(limbs Y).length=m+2:=⟨(limbs Y).length-2,by omega⟩
 obtain ⟨n2,A2,c2,rfl⟩:=ho2.shape
 have hl:=ho2.len
 rw [hm] at hl
 subst hl
 have HX2:=Lib.hid (HX1.out.trans hx2)
 have HXX:=Lib.hid hx2
 clear ho2 hx2
 go_wp2_with fail
 refine (HCM.out _ _ _ (HO1.out.arr.ext HXX.out) HO2.out.arr).mono ?_
 rintro e w3 ⟨rfl,hx3⟩
 have HX3:=Lib.hid (HX2.out.trans hx3)
 have HA3:=Lib.hid ((HO1.out.ext HXX.out).ext hx3).arr
 have HB3:=Lib.hid (HO2.out.ext hx3).arr
 obtain ⟨_,A2',c2',he,hcc,hmm,hcell⟩:=(HO2.out.ext hx3).arr.open
 rw [hm] at he hcell hcc
 injection he with e1 e3 e2
 subst e1 e2
 clear e3
 obtain ⟨b2,o2,rfl,hk4,hcell⟩:=hcell (by omega)
 have hx:=hcell (m+1) (by omega)
 have hxm:=(ok_limbs Y).get (m+1)
 clear hx3 hcell HXX
 generalize (limbs Y).getD (m+1) 0=y at *
 simp only [d32] at hx
 have HLZ:=Lib.hid (fun W=>lead_any W y hxm)
 have hneq1:(((m:Int)+2) == 1)=false:=by rw [beq_eq_false_iff_ne];omega
 have hneq0:(((m:Int)+2) == 0)=false:=by rw [beq_eq_false_iff_ne];omega
 go_wp2_with fail
 refine (HLZ.out _).mono ?_
 rintro e w4 ⟨s,hs,rfl,rfl⟩
 go_wp2_with fail
 refine (HSHB.out _ _ s HB3.out (by omega)).mono ?_
 rintro e w4 ⟨v4,rfl,ho4,hx4⟩
 have HX4:=Lib.hid (HX3.out.trans hx4)
 have HA4:=Lib.hid (HA3.out.ext hx4)
 have HO4:=Lib.hid ho4
 obtain ⟨n4,A4,c4,rfl⟩:=ho4.shape
 have HL4:=Lib.hid ho4.len
 clear ho4 hx4
 go_wp2_with fail
 refine (HSHA.out _ _ s HA4.out (by omega)).mono ?_
 rintro e w5 ⟨v5,rfl,ho5,hx5⟩
 have HX5:=Lib.hid (HX4.out.trans hx5)
 have HX45:=Lib.hid hx5
 have HO5:=Lib.hid ho5
 obtain ⟨n5,A5,c5,rfl⟩:=ho5.shape
 have hsz5:=hx5.size
 clear ho5 hx5
 have hB5:=HX4.out.size
 have hl5m:=limbs_shl X hs
 have HLIM:Hid ((limbs (X*2 ^ s)).length+[0].length≤2147483648):=Lib.hid (by simp;omega)
 clear hl5m
 go_wp2_with (at_builtin;go_must (refine wpList_append32 rfl _ _ rfl rfl (HO5.out.ext ((Ext.refl _).alloc _)) rfl (Arr.fresh1' _ _ 0 rfl (by omega)) HLIM.out (by simp;omega) ?_;intro v6 w6 ho6 hgr6 hb6))
 have hsz6:=hb6.size
 simp only [World.size_alloc] at hsz6
 have HX6:=Lib.hid ((HX5.out.alloc (.cells #[.int .u32 0] 129)).more (hb6.mono hB5))
 have HA6:Hid (Arr w6 (.slice A4 n4 c4) (limbs (Y*2 ^ s))):=Lib.hid (HO4.out.arr.ext ((HX45.out.alloc _).more hb6))
 have hY2:Y*2 ^ s≠0:=Nat.mul_ne_zero hv0 (Nat.ne_of_gt (Nat.pow_pos (by omega)))
 have hYX:Y*2 ^ s≤X*2 ^ s:=Nat.mul_le_mul_right _ hge
 have hYY:Y≤Y*2 ^ s:=Nat.le_mul_of_pos_right _ (Nat.pow_pos (by omega))
 have hle1:=limbs_mono hYX
 have hle2:=limbs_mono hYY
 have hle3:=limbs_shl X hs
 have HDQ:=Lib.hid (div_shift X Y s)
 have HDM:=Lib.hid (mod_shift X Y s)
 have hlow:=fun g=>HO4.out.arr.low (g:=g)
 have hyl:=limbs_ge hY2
 have hyt:=limbs_top hY2
 have hylt:=val_lt (ok_limbs (Y*2 ^ s))
 rw [val_limbs] at hylt
 obtain ⟨u0,hu0⟩:∃u0,limbs (X*2 ^ s)++[0]=u0:=⟨_,rfl⟩
 have hu0v:val u0=X*2 ^ s:=by rw [←hu0,val_snoc,val_limbs,Nat.mul_zero,Nat.add_zero]
 have hu0o:Ok u0:=by rw [←hu0];exact (ok_limbs _).snoc (by omega)
 have hu0l:u0.length=(limbs (X*2 ^ s)).length+1:=by rw [←hu0];simp
 have hu0z:u0.getD (u0.length-1) 0=0:=by
  rw [hu0l,Nat.add_sub_cancel,←hu0,List.getD_eq_getElem?_getD,List.getElem?_append_right (Nat.le_refl _),Nat.sub_self]
  rfl
 rw [hu0] at ho6
 have hn4:=HL4.out
 rw [←hn4] at hle1 hle2 hyl hyt hylt hlow
 obtain ⟨m4,hm4⟩:∃m4,n4=m4+2:=⟨n4-2,by omega⟩
 obtain ⟨M,hM⟩:∃M,u0.length=m4+2+(M+1):=⟨u0.length-(m4+2)-1,by omega⟩
 have hn4m:=hn4
 rw [hm4] at hn4 hle1 hle2 hyl hyt hylt hlow HO4 HA6
 subst hm4
 have HST:Hid (LongAt u0 u0 [] (Y*2 ^ s) (M+1)):=Lib.hid (by
  have:=LongAt.start (V:=Y*2 ^ s) (n:=m4+2) hu0o (by omega) (by omega) hu0z hyl
  rwa [show u0.length-(m4+2)=M+1 by omega] at this)
 obtain ⟨gu,cu,RX,rfl,hgu,hcu1,hcu2,hbu,hcu3⟩:=ho6.blockR (by omega)
 have HBU:=Lib.hid hbu
 have hne4:=hlow gu (by omega) hgu
 have HNE4:=Lib.hid hne4
 have HN4:=Lib.hid hn4
 have hsub:(u0.length:Int)-((m4:Int)+2)=(M:Int)+1:=by omega
 have hmk:=run_make32_succ M (by omega)
 have HU0V:=Lib.hid hu0v
 obtain ⟨Lu,hLu⟩:∃Lu,u0.length=Lu:=⟨_,rfl⟩
 rw [hLu] at hsub hcu1 hM hcu3 ⊢
 have HLU:=Lib.hid hLu
 have hLub:Lu≤134217730:=by omega
 have hm4b:m4≤134217728:=by omega
 unfold maxLen at hcu2
 have HCU3:=Lib.hid hcu3
 clear hcu3
 have HYL:=Lib.hid hyl
 have HYT:=Lib.hid hyt
 have HYLT:=Lib.hid hylt
 have HM:=Lib.hid hM
 clear hu0 hLu hn4m hu0v hu0z hn4 hle1 hle2 hle3 hyl hyt hylt hlow ho6 hbu hne4 hb6 hgr6 hYX hYY hu0l hM
 go_wp2_with fail
 go_simp
 go_wp2_with fail
 clear hmk hsub
 have hguw:=HBU.out.lt
 have HX0:=Lib.hid (HX6.out.alloc (.cells (zeros (M+1)) 129))
 have HB0:=Lib.hid (HBU.out.alloc (.cells (zeros (M+1)) 129))
 have HA0:=Lib.hid (HA6.out.ext ((Ext.refl w6).alloc (.cells (zeros (M+1)) 129)))
 have HQ0:=Lib.hid (Blk.new w6 129 (zeros (M+1)))
 have HNE6:=Lib.hid (HA6.out.low (g:=w6.heap.size) (by rw [←HL4.out];omega) (Nat.le_refl _))
 have HBS:=Lib.hid HX6.out.size
 generalize w6.heap.size=gq at *
 have hgq:gu≠gq:=by omega
 go_loopw [15] (fun s15 wr=>∃(K:Nat) (us qs:List Nat),K≤M+1∧s15= .int .i64 ((K:Int)-1)∧K+qs.length=M+1∧DivLoop w wr u0 us qs (Y*2 ^ s) gu gq K RX (.slice A4 (m4+2) c4)) (fun s15 _=>(intOf s15+1).toNat)
 case atStart=>exact ⟨M+1,u0,[],Nat.le_refl _,by congr 1;omega,rfl,HST.out,ok_nil,by rw [List.append_nil];exact HQ0.out,HB0.out,HA0.out,HX0.out⟩
 case round=>
  obtain ⟨K,us,qs,hK,rfl,hql,hlong,hokq,hbq,hbu,hav,hext⟩:=hrel
  rcases Nat.eq_zero_or_pos K with h0|h0
  ·subst h0
   obtain ⟨hq1,hq2⟩:=hlong.done HYLT.out
   rw [HU0V.out,HDQ.out] at hq1
   rw [HU0V.out] at hq2
   have hMM:=HM.out
   have hus:us.length=Lu:=by rw [hlong.1];exact HLU.out
   have hqlen:qs.length=M+1:=by omega
   have haq:Arr wr (.slice (some ⟨gq,0,none⟩) (M+1) (M+1)) qs:=by
    have h3:=(Own.block (B:=gq) hokq (by simpa using hbq) (Nat.le_refl _) (by omega)).arr
    rwa [hqlen] at h3
   have hau:Arr wr (.slice (some ⟨gu,0,none⟩) (m4+2) cu) (us.take (m4+2)):=by
    have h3:=blkR_arr (c:=cu) hbu hlong.2.1 (by omega) (by unfold maxLen;omega)
    obtain ⟨A',c',he,h4⟩:=h3.take (m4+2) (by omega)
    injection he with h5 _ h6
    subst h5 h6
    exact h4
   have HTQ:=Lib.hid (fun W hx=>trim_any W _ _ (haq.ext hx) (by omega))
   have hauZ:Arr wr (.slice (some ⟨gu,0,none⟩) ((m4:Int)+2).toNat cu) (us.take (m4+2)):=by
    rw [show ((m4:Int)+2).toNat=m4+2 by omega]
    exact hau
   have HTU:=Lib.hid (fun W hx=>trim_any W _ _ (hauZ.ext hx) (by rw [List.length_take];omega))
   rw [hq1] at HTQ
   rw [hq2] at HTU
   have HSH:=Lib.hid (fun W v a=>shr_any W v (limbs (X*2 ^ s % (Y*2 ^ s))) s a (by
    have:=limbs_mono (Nat.le_of_lt (Nat.mod_lt (X*2 ^ s) (Nat.pos_of_ne_zero hY2)))
    rw [←HL4.out] at this
    omega) (by omega))
   rw [val_limbs,HDM.out] at HSH
   have HXT:=Lib.hid hext
   have hmle:m4+2≤Lu:=by omega
   have hmi2:(0:Int)≤(m4:Int)+2:=by omega
   have hmi3:(m4:Int)+2≤(cu:Int):=by omega
   clear hq1 hq2 haq hau hauZ hbq hbu hav hlong hus hMM hqlen hext hql
   go_wp2_with fail
   go_region_held3 (fun w'=>Ext wr w')
    (first|exact (Ext.refl wr).drew|assumption|exact Ext.trans (by assumption) (by assumption))
    (first
     |(go_at_call 123;(with_reducible refine (HTQ.out _ (by assumption)).mono ?_);rintro e w9 ⟨v9,rfl,ho9,hx9⟩;have HOQ:=Lib.hid (ho9.mono (Nat.le_trans HXT.out.size (Ext.size (w:=wr) (by assumption))));obtain ⟨n9,A9,c9,rfl⟩:=ho9.shape;(try have HOU:=Lib.hid (HOU.out.ext hx9));(try have HOS:=Lib.hid (HOS.out.ext hx9));clear ho9)
     |(go_at_call 123;(with_reducible refine (HTU.out _ (by assumption)).mono ?_);rintro e w8 ⟨v8,rfl,ho8,hx8⟩;have HOU:=Lib.hid ho8;obtain ⟨n8,A8,c8,rfl⟩:=ho8.shape;(try have HOQ:=Lib.hid (HOQ.out.ext hx8));clear ho8)
     |(go_at_call 171;(with_reducible refine (HSH.out _ _ HOU.out.arr).mono ?_);rintro e w7 ⟨v7,rfl,ho7,hx7⟩;have HOS:=Lib.hid (ho7.mono (Nat.le_trans HXT.out.size (Ext.size (w:=wr) (by assumption))));obtain ⟨n7,A7,c7,rfl⟩:=ho7.shape;(try have HOQ:=Lib.hid (HOQ.out.ext hx7));clear ho7))
   all_goals
    go_wp2_with fail
    go_ret3
    exact ⟨_,_,rfl,HOQ.out,HOS.out,HXT.out.trans (by assumption)⟩
  ·obtain ⟨j,rfl⟩:∃j,K=j+1:=⟨K-1,by omega⟩
   have hus:us.length=Lu:=by rw [hlong.1];exact HLU.out
   have hMM:=HM.out
   have hnel:=HNE4.out
   have HD:=Lib.hid (digit_any RX wr gu j (cu-j) m4 us (.slice A4 (m4+2) c4) (limbs (Y*2 ^ s)) hbu hlong.2.1 HL4.out.symm (by omega) (by omega) (by omega) (by unfold maxLen;omega) hav hnel HYT.out
    (by rw [val_limbs];exact (hlong.seg_lt (by omega) HYLT.out).2))
   rw [val_limbs,show m4+3=j+(m4+2)+1-j by omega] at HD
   have hjb:j+(m4+2)+1≤Lu:=by omega
   have HLS:=Lib.hid (fun zs h1 h2 h3=>hlong.step (zs:=zs) (n:=m4+2) (by omega) HYLT.out (Nat.pos_of_ne_zero hY2) (by omega) h1 h2 h3)
   have hdm:val (seg us j (m4+2)) / (Y*2 ^ s)<4294967296:=by
    rw [Nat.div_lt_iff_lt_mul (Nat.pos_of_ne_zero hY2),Nat.mul_comm]
    exact (hlong.seg_lt (by omega) HYLT.out).2
   have hbql:=hbq.lt
   have hbqf:=hbq
   have HBQ:=Lib.hid hbq
   have HAV:=Lib.hid hav
   have HXT:=Lib.hid hext
   clear hbq hav hext hbu hlong hnel hbqf hus hMM
   generalize val (seg us j (m4+2)) / (Y*2 ^ s)=D at *
   go_wp2_with fail
   refine HD.out.mono ?_
   rintro e w7 ⟨zs,rfl,hzl,hzo,hzv,hbu7,hgr7⟩
   have HL7:=Lib.hid (HLS.out zs hzo (by rw [hzl];omega) hzv)
   have hbq7:Blk w7 gq 129 (cells (List.replicate (j+1) 0++qs)):=(hgr7.block gq hbql (by simpa using hgq.symm)).trans HBQ.out
   have hst:=hbq7.cell j
   have hfz:=hbq7.frozen j
   rw [get_cells _ _ (by simp;omega)] at hst
   have hbq8:=hbq7.set_ j (d32 D)
   rw [set_cells,set_back] at hbq8
   have HB8:=Lib.hid hbq8
   have HU8:=Lib.hid (hbu7.far (p:=⟨gq,j,none⟩) hgq (d32 D))
   have HA8:=Lib.hid ((HAV.out.kept hgr7 HNE4.out).put HNE6.out j (d32 D))
   have HX8:=Lib.hid ((HXT.out.grown hgr7 (fun k hk=>by simp at hk;omega)).setCell (p:=⟨gq,j,none⟩) HBS.out (d32 D))
   clear hzl hzo hzv hbu7 hgr7 hbq7 hbq8
   generalize (List.replicate (j+1) 0++qs).getD j 0=z at hst
   simp only [d32] at hst
   go_wp2_with fail
   go_roundw
   case rel=>exact ⟨j,_,D::qs,by omega,(by first|rfl|(congr 1;omega)),by simp;omega,HL7.out,ok_cons hdm hokq,HB8.out,HU8.out,HA8.out,HX8.out⟩
   case measure=>simp [intOf]
theorem qdivmod_any (w:World) (v u:Value) (xs ys:List Nat) (h:Arr w v xs) (h':Arr w u ys) (hn:xs.length≤134217728) (hn':ys.length≤134217728) (hy:val ys≠0):
  Calls Tryz.prog 146 #[v,u] w (DivPost (val xs) (val ys) w):=by
 rcases Nat.lt_or_ge (val xs) (val ys) with h1|h1
 ·exact qdivmod_lt w v u xs ys h h' hn hn' h1
 ·have h2:(limbs (val ys)).length≠0:=fun e=>hy (limbs_eq_nil.1 (List.eq_nil_of_length_eq_zero e))
  rcases Nat.lt_or_ge (limbs (val ys)).length 2 with h3|h3
  ·exact qdivmod_one w v u xs ys h h' hn hn' h1 (by omega)
  ·exact qdivmod_long w v u xs ys h h' hn hn' h1 h3
end Big
end Go.Proofs.YtaccjdbbkmhanaaGreatDoor
