import Derived.Test.YtaccjdbbkmhanaaGreatDoorM5
import Derived.Test.YtaccjdbbkmhanaaGreatDoorM6
import Derived.Test.YtaccjdbbkmhanaaGreatDoorM4
namespace Go.Proofs.YtaccjdbbkmhanaaGreatDoor
namespace Big
open Go.RowKit
def di (x:Int):Value:= .int .i64 x
def IntsOk (l:List Int):Prop:=∀x∈l,-9223372036854775808≤x∧x≤9223372036854775807
def ArrI (w:World) (v:Value) (l:List Int):Prop:=IntsOk l∧RArr w v (l.map di)
structure KB (B g:Nat) (w w':World):Prop where
 os:w'.os=w.os
 tape:w'.tape=w.tape
 output:w'.output=w.output
 size:w.heap.size≤w'.heap.size
 block:∀k,k<B→k≠g→w'.heap[k]? =w.heap[k]?
section
variable {w w' w'':World} {B B' g:Nat} {v:Value} {l:List Int}
theorem KB.refl (B g:Nat) (w:World):KB B g w w:=⟨rfl,rfl,rfl,Nat.le_refl _,fun _ _ _=>rfl⟩
theorem KB.trans (h:KB B g w w') (k:KB B g w' w''):KB B g w w'':=
 ⟨k.os.trans h.os,k.tape.trans h.tape,k.output.trans h.output,Nat.le_trans h.size k.size,fun i h1 h2=>(k.block i h1 h2).trans (h.block i h1 h2)⟩
theorem KB.mono (h:KB B g w w') (hB:B'≤B):KB B' g w w':=⟨h.os,h.tape,h.output,h.size,fun k h1 h2=>h.block k (by omega) h2⟩
theorem KB.below (h:KB B g w w') (k:Below B w' w''):KB B g w w'':=h.trans ⟨k.os,k.tape,k.output,k.size,fun i h1 _=>k.block i h1⟩
theorem KB.ext (h:KB B g w w') (k:Ext w' w'') (hB:B≤w'.heap.size):KB B g w w'':=h.below (Below.mono k hB)
theorem KB.to_ext {w0:World} (h:KB B g w w') (k:Ext w0 w) (hB:w0.heap.size≤B) (hg:w0.heap.size≤g):Ext w0 w':=
 ⟨h.os.trans k.os,h.tape.trans k.tape,h.output.trans k.output,Nat.le_trans k.size h.size,fun i hi=>(h.block i (by omega) (by omega)).trans (k.block i hi)⟩
theorem KB.blk {t:TypeId} {cs:Array Value} {b:Nat} (h:KB B g w w') (hb:Blk w b t cs) (h1:b<B) (h2:b≠g):Blk w' b t cs:=(h.block b h1 h2).trans hb
theorem KB.set {p:Addr} (hp:p.block=g) (u:Value):KB B g w (w.setCell p u):=
 ⟨rfl,rfl,rfl,by simp [World.setCell],fun k _ h2=>Below.heap_setCell w p u k (by rw [hp];exact h2)⟩
theorem KB.drewN (h:KB B g w w') (n:Nat):KB B g w (w'.drewN n):=⟨h.os,h.tape,h.output,h.size,h.block⟩
theorem RArr.kb {vs:List Value} (h:RArr w v vs) (hk:KB B g w w') (hv:∀b,v.ownBlock=some b→b<B∧b≠g):RArr w' v vs:=by
 obtain ⟨A,c,rfl,h2,h3,h4⟩:=h
 refine ⟨A,c,rfl,h2,h3,fun hp=> ?_⟩
 obtain ⟨b,o,rfl,hlt,hc⟩:=h4 hp
 obtain ⟨h5,h6⟩:=hv b rfl
 refine ⟨b,o,rfl,Nat.lt_of_lt_of_le hlt hk.size,fun j u hj=> ?_⟩
 have h7:=hc j u hj
 rw [←h7]
 exact World.cell?_of_block (a:=⟨b,o+j,none⟩) (hk.block b h5 h6)
theorem ArrI.ext (h:ArrI w v l) (hb:Ext w w'):ArrI w' v l:=⟨h.1,h.2.ext hb⟩
theorem ArrI.kb (h:ArrI w v l) (hk:KB B g w w') (hv:∀b,v.ownBlock=some b→b<B∧b≠g):ArrI w' v l:=⟨h.1,h.2.kb hk hv⟩
theorem ArrI.open (h:ArrI w v l):∃A c,v= .slice A l.length c∧l.length≤c∧c≤maxLen∧
  (0<l.length→∃b o,A=some ⟨b,o,none⟩∧b<w.heap.size∧∀j (hj:j<l.length),w.cell? ⟨b,o+j,none⟩=some (.int .i64 l[j])):=by
 obtain ⟨A,c,rfl,h2,h3,h4⟩:=h.2
 rw [List.length_map] at h2 h4
 refine ⟨A,c,by rw [List.length_map],h2,h3,fun hp=> ?_⟩
 obtain ⟨b,o,rfl,hlt,hc⟩:=h4 hp
 exact ⟨b,o,rfl,hlt,fun j hj=>hc j _ (by rw [List.getElem?_map,List.getElem?_eq_getElem hj];rfl)⟩
theorem ArrI.lt (h:ArrI w v l) (hp:0<l.length):∀b,v.ownBlock=some b→b<w.heap.size:=by
 intro b hb
 obtain ⟨A,c,rfl,_,_,h4⟩:=h.open
 obtain ⟨b',o,rfl,hlt,_⟩:=h4 hp
 simp only [Value.ownBlock,Option.some.injEq] at hb
 omega
end
def nextV (l:List Int) (a:Nat) (n:Int):Int:=if a<l.length then l.getD a 0 % n else 0
def nextA (l:List Int) (a:Nat):Nat:=if a<l.length then a+1 else a
structure TapeAt (B g:Nat) (w:World) (L:Value) (l:List Int) (a:Nat):Prop where
 blk:Blk w g 61 #[L,.int .i64 (a:Int)]
 arr:ArrI w L l
 off:0<l.length→∀b,L.ownBlock=some b→b<B∧b≠g
 lt:g<B
 pos:a≤l.length
 few:l.length≤1000000
theorem nextV_range {l:List Int} {a:Nat} {n:Int} (hn:1≤n):0≤nextV l a n∧nextV l a n<n:=by
 unfold nextV
 split
 ·exact ⟨Int.emod_nonneg _ (by omega),Int.emod_lt_of_pos _ (by omega)⟩
 ·exact ⟨Int.le_refl _,by omega⟩
theorem ArrI.nil_kb {w w':World} {v:Value} {l:List Int} (h:ArrI w v l) (h0:l.length=0) (_hs:w.heap.size≤w'.heap.size):ArrI w' v l:=by
 refine ⟨h.1,?_⟩
 obtain ⟨A,c,rfl,h2,h3,_⟩:=h.2
 exact ⟨A,c,rfl,h2,h3,fun hp=>by rw [List.length_map] at hp;omega⟩
theorem TapeAt.kb {B g:Nat} {w w':World} {L:Value} {l:List Int} {a a':Nat} (h:TapeAt B g w L l a) (hk:KB B g w w') (hb:Blk w' g 61 #[L,.int .i64 (a':Int)]) (ha:a'≤l.length):TapeAt B g w' L l a':=by
 refine ⟨hb,?_,h.off,h.lt,ha,h.few⟩
 rcases Nat.eq_zero_or_pos l.length with h0|h0
 ·exact h.arr.nil_kb h0 hk.size
 ·exact h.arr.kb hk (h.off h0)
theorem TapeAt.below {B g:Nat} {w w':World} {L:Value} {l:List Int} {a:Nat} (h:TapeAt B g w L l a) (hk:Below B w w'):TapeAt B g w' L l a:=
 h.kb ((KB.refl B g w).below hk) ((hk.block g h.lt).trans h.blk) h.pos
theorem TapeAt.mono {B B' g:Nat} {w:World} {L:Value} {l:List Int} {a:Nat} (h:TapeAt B g w L l a) (hB:B≤B'):TapeAt B' g w L l a:=
 ⟨h.blk,h.arr,fun h0 b hb=>⟨Nat.lt_of_lt_of_le (h.off h0 b hb).1 hB,(h.off h0 b hb).2⟩,Nat.lt_of_lt_of_le h.lt hB,h.pos,h.few⟩
end Big
end Go.Proofs.YtaccjdbbkmhanaaGreatDoor
namespace Go.Proofs.YtaccjdbbkmhanaaGreatDoor
namespace Big
open Go.RowKit
theorem tmod_mod (v n:Int) (hn:1≤n):(if v.tmod n<0 then v.tmod n+n else v.tmod n)=v % n:=by
 have h:=Int.tmod_eq_emod (a:=v) (b:=n)
 have h1:=Int.emod_nonneg v (show n≠0 by omega)
 have h2:=Int.emod_lt_of_pos v (show 0<n by omega)
 rw [h]
 split<;>split<;>omega
theorem mod_any (w:World) (v n:Int) (_h1: -9223372036854775808≤v) (_h2:v≤9223372036854775807) (hn:1≤n) (hn2:n≤4611686018427387904):
  Calls Tryz.prog 21 #[.int .i64 v,.int .i64 n] w fun e w'=>e= .returned (.int .i64 (v % n))∧w=w':=by
 have hT:=tmod_mod v n hn
 have hne:(n == 0)=false:=by rw [beq_eq_false_iff_ne];omega
 obtain ⟨r,hr⟩:∃r,v.tmod n=r:=⟨_,rfl⟩
 rw [hr] at hT
 have hm1:=Int.emod_nonneg v (show n≠0 by omega)
 have hm2:=Int.emod_lt_of_pos v (show 0<n by omega)
 by_cases h0:r<0
 ·rw [if_pos h0] at hT
  have hb1: -n≤r:=by omega
  have HT:=Lib.hid hT
  clear hT hm1 hm2
  go_enter Tryz.func21,Tryz.ntmps21
  go_wp2_with fail
  go_ret
  exact ⟨congrArg (fun z=>Ending.returned (.int .i64 z)) HT.out,rfl⟩
 ·rw [if_neg h0] at hT
  have hb1:r<n:=by omega
  have HT:=Lib.hid hT
  clear hT hm1 hm2
  go_enter Tryz.func21,Tryz.ntmps21
  go_wp2_with fail
  go_ret
  exact ⟨congrArg (fun z=>Ending.returned (.int .i64 z)) HT.out,rfl⟩
end Big
end Go.Proofs.YtaccjdbbkmhanaaGreatDoor
namespace Go.Proofs.YtaccjdbbkmhanaaGreatDoor
namespace Big
open Go.RowKit
theorem limbs_mono {a b:Nat} (h:a≤b):(limbs a).length≤(limbs b).length:=
 length_limbs_le (Nat.lt_of_le_of_lt h (by have:=val_lt (ok_limbs b);rwa [val_limbs] at this))
theorem size_lt {xs ys:List Nat} (h:Ok xs) (h':Ok ys) (hs:size xs<size ys):val xs<val ys:=by
 rcases Nat.lt_or_ge (val xs) (val ys) with h1|h1
 ·exact h1
 ·have:=limbs_mono h1
  rw [←size_eq h,←size_eq h'] at this
  omega
theorem val_drop_size {xs:List Nat} (h:Ok xs):val (xs.drop (size xs))=0:=by
 have h1:=val_split xs (size xs) (size_le xs)
 rw [take_size h,val_limbs] at h1
 have h2:=pow_pos' (size xs)
 rcases Nat.eq_zero_or_pos (val (xs.drop (size xs))) with h3|h3
 ·exact h3
 ·have:=Nat.mul_pos h2 h3
  omega
theorem cmp_any (w:World) (v u:Value) (xs ys:List Nat) (h:Arr w v xs) (h':Arr w u ys) (hn:xs.length≤1073741824) (hn':ys.length≤1073741824):
  Calls Tryz.prog 166 #[v,u] w fun e w'=>e= .returned (.int .i64 (cmpI (val xs) (val ys)))∧Ext w w':=by
 have HA:=Lib.hid h
 have HB:=Lib.hid h'
 obtain ⟨hok,A,c,rfl,hc,hm,hcell⟩:=h.open
 obtain ⟨hok',A',c',rfl,hc',hm',hcell'⟩:=h'.open
 have HSA:=Lib.hid (fun W hx=>size_any W _ xs (HA.out.ext hx))
 have HSB:=Lib.hid (fun W hx=>size_any W _ ys (HB.out.ext hx))
 have h1:=size_le xs
 have h2:=size_le ys
 have HL:=Lib.hid (size_lt hok hok')
 have HG:=Lib.hid (size_lt hok' hok)
 have HD:=Lib.hid (show size xs=size ys→val (xs.drop (size xs))=val (ys.drop (size xs)) from fun e=>by rw [val_drop_size hok,e,val_drop_size hok'])
 have HCA:=Lib.hid hcell
 have HCB:=Lib.hid hcell'
 clear h h' hcell hcell' hm hm' hc hc'
 go_enter Tryz.func166,Tryz.ntmps166
 go_wp2_with fail
 refine (HSA.out _ (Ext.refl w)).mono ?_
 rintro e w' ⟨rfl,rfl⟩
 go_wp2_with fail
 refine (HSB.out _ (Ext.refl w)).mono ?_
 rintro e w' ⟨rfl,rfl⟩
 rcases Nat.lt_trichotomy (size xs) (size ys) with hs|hs|hs
 ·have HC:=Lib.hid (cmpI_lt (HL.out hs))
  have hs':(size xs:Int)<(size ys:Int):=by omega
  clear hs
  go_wp2_with fail
  go_ret
  exact ⟨congrArg (fun z=>Ending.returned (.int .i64 z)) HC.out.symm,Ext.refl _⟩
 ·have HD2:=Lib.hid (HD.out hs)
  rw [←hs] at h2 ⊢
  clear hs HSA HSB HL HG HD HA HB
  generalize size xs=n at *
  go_wp2_with fail
  go_loopw [7] (fun i wr=>∃k:Nat,k≤n∧i= .int .i64 ((k:Int)-1)∧Hid (val (xs.drop k)=val (ys.drop k))∧Ext w wr) (fun i _=>(intOf i+1).toNat)
  case atStart=>exact ⟨n,Nat.le_refl _,rfl,HD2,Ext.refl _⟩
  case round=>
   obtain ⟨k,hk,rfl,HV,hext⟩:=hrel
   rcases Nat.eq_zero_or_pos k with h0|h0
   ·subst h0
    have HE:=Lib.hid (cmpI_eq (show val xs=val ys from HV.out))
    go_wp2_with fail
    go_ret
    exact ⟨congrArg (fun z=>Ending.returned (.int .i64 z)) HE.out.symm,hext⟩
   ·obtain ⟨m,rfl⟩:∃m,k=m+1:=⟨k-1,by omega⟩
    obtain ⟨b,o,rfl,hb,hcell⟩:=HCA.out (by omega)
    obtain ⟨b',o',rfl,hb',hcell'⟩:=HCB.out (by omega)
    have hx:=(hext.cell hb).trans (hcell m (by omega))
    have hy:=(hext.cell hb').trans (hcell' m (by omega))
    clear hcell hcell'
    have HL:=Lib.hid (digit_lt hok m HV.out)
    have HG:=Lib.hid (digit_lt hok' m HV.out.symm)
    have HE:=Lib.hid (fun he=>digit_eq (xs:=xs) (ys:=ys) m HV.out he)
    obtain ⟨x,hxe⟩:∃x,xs.getD m 0=x:=⟨_,rfl⟩
    obtain ⟨y,hye⟩:∃y,ys.getD m 0=y:=⟨_,rfl⟩
    rw [hxe] at hx HL HG HE
    rw [hye] at hy HL HG HE
    clear hxe hye
    simp only [d32] at hx hy
    have HX:=Lib.hid hext
    clear hext
    have h3:(m:Int)<(xs.length:Int):=by omega
    have h4:(m:Int)<(ys.length:Int):=by omega
    have h5:(0:Int)≤(m:Int):=by omega
    rcases Nat.lt_trichotomy x y with hxy|rfl|hxy
    ·have HC:=Lib.hid (cmpI_lt (HL.out hxy))
     have hd:decide (x<y)=true:=by simpa using hxy
     have hd2:decide ((x:Int)<(y:Int))=true:=by simpa using hxy
     go_wp2_with fail
     go_quiet (fail)
     go_wp2_with fail
     go_ret
     exact ⟨congrArg (fun z=>Ending.returned (.int .i64 z)) HC.out.symm,HX.out.drewN _⟩
    ·have HE2:=Lib.hid (HE.out rfl)
     go_wp2_with fail
     go_quiet (fail)
     go_wp2_with fail
     go_quiet (fail)
     go_wp2_with fail
     go_roundw
     case rel=>exact ⟨m,by omega,rfl,HE2,HX.out.drewN _⟩
     case measure=>simp [intOf]
    ·have HC:=Lib.hid (cmpI_gt (HG.out hxy))
     have hd:decide (x<y)=false:=by simp;omega
     have hd2:decide ((x:Int)<(y:Int))=false:=by simp;omega
     have hd3:decide (y<x)=true:=by simpa using hxy
     have hd4:decide ((y:Int)<(x:Int))=true:=by simpa using hxy
     go_wp2_with fail
     go_quiet (fail)
     go_wp2_with fail
     go_quiet (fail)
     go_wp2_with fail
     go_ret
     exact ⟨congrArg (fun z=>Ending.returned (.int .i64 z)) HC.out.symm,(HX.out.drewN _).drewN _⟩
 ·have HC:=Lib.hid (cmpI_gt (HG.out hs))
  have hs':(size ys:Int)<(size xs:Int):=by omega
  have hs'':¬(size xs:Int)<(size ys:Int):=by omega
  clear hs
  go_wp2_with fail
  go_ret
  exact ⟨congrArg (fun z=>Ending.returned (.int .i64 z)) HC.out.symm,Ext.refl _⟩
end Big
end Go.Proofs.YtaccjdbbkmhanaaGreatDoor
namespace Go.Proofs.YtaccjdbbkmhanaaGreatDoor
namespace Big
open Go.RowKit
theorem bits_u32_and (a b:Nat) (ha:a<4294967296) (hb:b<4294967296):bits .and .u32 (a:Int) (b:Int)=((a &&& b:Nat):Int):=by
 have hx:a &&& b<2 ^ 32:=Nat.and_lt_two_pow _ (by omega)
 have h1:(BitVec.ofInt 32 (a:Int)).toNat=a:=by
  rw [BitVec.ofInt_natCast,BitVec.toNat_ofNat];exact Nat.mod_eq_of_lt (by omega)
 have h2:(BitVec.ofInt 32 (b:Int)).toNat=b:=by
  rw [BitVec.ofInt_natCast,BitVec.toNat_ofNat];exact Nat.mod_eq_of_lt (by omega)
 show IntKind.u32.wrap ((BitVec.ofInt 32 (a:Int) &&& BitVec.ofInt 32 (b:Int)).toNat:Int)=_
 rw [BitVec.toNat_and,h1,h2,IntKind.wrap_u32]
 omega
theorem bits_u32_or (a b:Nat) (ha:a<4294967296) (hb:b<4294967296):bits .or .u32 (a:Int) (b:Int)=((a ||| b:Nat):Int):=by
 have hx:a ||| b<2 ^ 32:=Nat.or_lt_two_pow (by omega) (by omega)
 have h1:(BitVec.ofInt 32 (a:Int)).toNat=a:=by
  rw [BitVec.ofInt_natCast,BitVec.toNat_ofNat];exact Nat.mod_eq_of_lt (by omega)
 have h2:(BitVec.ofInt 32 (b:Int)).toNat=b:=by
  rw [BitVec.ofInt_natCast,BitVec.toNat_ofNat];exact Nat.mod_eq_of_lt (by omega)
 show IntKind.u32.wrap ((BitVec.ofInt 32 (a:Int) ||| BitVec.ofInt 32 (b:Int)).toNat:Int)=_
 rw [BitVec.toNat_or,h1,h2,IntKind.wrap_u32]
 omega
theorem bits_u32_xor (a b:Nat) (ha:a<4294967296) (hb:b<4294967296):bits .xor .u32 (a:Int) (b:Int)=((a ^^^ b:Nat):Int):=by
 have hx:a ^^^ b<2 ^ 32:=Nat.xor_lt_two_pow (by omega) (by omega)
 have h1:(BitVec.ofInt 32 (a:Int)).toNat=a:=by
  rw [BitVec.ofInt_natCast,BitVec.toNat_ofNat];exact Nat.mod_eq_of_lt (by omega)
 have h2:(BitVec.ofInt 32 (b:Int)).toNat=b:=by
  rw [BitVec.ofInt_natCast,BitVec.toNat_ofNat];exact Nat.mod_eq_of_lt (by omega)
 show IntKind.u32.wrap ((BitVec.ofInt 32 (a:Int) ^^^ BitVec.ofInt 32 (b:Int)).toNat:Int)=_
 rw [BitVec.toNat_xor,h1,h2,IntKind.wrap_u32]
 omega
theorem top_bit {n:Nat} (h:n<4294967296):n / 2147483648=(n.testBit 31).toNat:=by
 rw [Nat.testBit_eq_decide_div_mod_eq,show (2:Nat) ^ 31=2147483648 from rfl]
 have:n / 2147483648<2:=by omega
 rcases Nat.lt_or_ge (n / 2147483648) 1 with h1|h1
 ·have:n / 2147483648=0:=by omega
  rw [this];rfl
 ·have:n / 2147483648=1:=by omega
  rw [this];rfl
theorem top_is {n:Nat} (h:n<4294967296):n.testBit 31=decide (2147483648≤n):=by
 rw [Nat.testBit_eq_decide_div_mod_eq,show (2:Nat) ^ 31=2147483648 from rfl]
 rw [decide_eq_decide]
 omega
theorem borrow32 {x y b d b':Nat} (hx:x<4294967296) (hy:y<4294967296) (hb:b≤1) (hd:d<4294967296) (hb':b'≤1) (h:x+4294967296*b'=d+y+b):
  bits .or .u32 (bits .and .u32 (bits .xor .u32 IntKind.u32.max (x:Int)) (y:Int)) (bits .and .u32 (bits .xor .u32 IntKind.u32.max (bits .xor .u32 (x:Int) (y:Int))) (((x:Int)-(y:Int)-(b:Int)) % 4294967296)) / 2147483648=((b':Nat):Int):=by
 have e1:((x:Int)-(y:Int)-(b:Int)) % 4294967296=((d:Nat):Int):=by omega
 have e2:IntKind.u32.max=((4294967295:Nat):Int):=by rfl
 have l1:x ^^^ y<4294967296:=Nat.xor_lt_two_pow (n:=32) hx hy
 have l2:4294967295 ^^^ x<4294967296:=Nat.xor_lt_two_pow (n:=32) (by decide) hx
 have l3:4294967295 ^^^ (x ^^^ y)<4294967296:=Nat.xor_lt_two_pow (n:=32) (by decide) l1
 have l4:(4294967295 ^^^ x) &&& y<4294967296:=Nat.and_lt_two_pow (n:=32) _ hy
 have l5:(4294967295 ^^^ (x ^^^ y)) &&& d<4294967296:=Nat.and_lt_two_pow (n:=32) _ hd
 have l6:(4294967295 ^^^ x) &&& y ||| (4294967295 ^^^ (x ^^^ y)) &&& d<4294967296:=Nat.or_lt_two_pow (n:=32) l4 l5
 rw [e1,e2,bits_u32_xor _ _ (by decide) hx,bits_u32_xor _ _ hx hy,bits_u32_xor _ _ (by decide) l1,bits_u32_and _ _ l2 hy,bits_u32_and _ _ l3 hd,bits_u32_or _ _ l4 l5]
 have key:((4294967295 ^^^ x) &&& y ||| (4294967295 ^^^ (x ^^^ y)) &&& d) / 2147483648=b':=by
  rw [top_bit l6,Nat.testBit_or,Nat.testBit_and,Nat.testBit_and,Nat.testBit_xor,Nat.testBit_xor,Nat.testBit_xor,top_is hx,top_is hy,top_is hd,top_is (show 4294967295<4294967296 by decide)]
  by_cases hX:2147483648≤x<;>by_cases hY:2147483648≤y<;>by_cases hD:2147483648≤d<;>simp [hX,hY,hD]<;>omega
 omega
theorem add32_any (w:World) (x y c:Nat) (hx:x<4294967296) (hy:y<4294967296) (hc:c≤1):
  Calls Tryz.prog 180 #[.int .u32 (x:Int),.int .u32 (y:Int),.int .u32 (c:Int)] w fun e w'=>e= .returned (.tuple #[.int .u32 (((x+y+c) % 4294967296:Nat):Int),.int .u32 (((x+y+c) / 4294967296:Nat):Int)])∧w=w':=by
 go_enter Tryz.func180,Tryz.ntmps180
 go_wp2_with fail
 go_ret2
 exact ⟨rfl,rfl⟩
theorem places_any (w:World) (n:Nat) (hn:n≤1048576):
  Calls Tryz.prog 178 #[.int .i64 (n:Int)] w fun e w'=>e= .returned (.int .i64 (n:Int))∧w=w':=by
 go_enter Tryz.func178,Tryz.ntmps178
 go_wp2_with fail
 go_ret
 exact ⟨rfl,rfl⟩
theorem sub32_any (w:World) (x y b:Nat) (hx:x<4294967296) (hy:y<4294967296) (hb:b≤1):
  Calls Tryz.prog 179 #[.int .u32 (x:Int),.int .u32 (y:Int),.int .u32 (b:Int)] w fun e w'=>∃d b':Nat,e= .returned (.tuple #[.int .u32 (d:Int),.int .u32 (b':Int)])∧d<4294967296∧b'≤1∧x+4294967296*b'=d+y+b∧w=w':=by
 obtain ⟨d,b',hd,hb',h⟩:∃d b':Nat,d<4294967296∧b'≤1∧x+4294967296*b'=d+y+b:=by
  by_cases h:x<y+b
  ·exact ⟨x+4294967296-(y+b),1,by omega,by omega,by omega⟩
  ·exact ⟨x-(y+b),0,by omega,by omega,by omega⟩
 have H:=Lib.hid h
 have hq:=borrow32 hx hy hb hd hb' h
 have e1:((x:Int)-(y:Int)-(b:Int)) % 4294967296=((d:Nat):Int):=by omega
 have E:=Lib.hid e1
 have E2:Hid (((((x:Int)-(y:Int)) % 4294967296)-(b:Int)) % 4294967296=((d:Nat):Int)):=Lib.hid (by omega)
 have Q:=Lib.hid hq
 have hu:(IntKind.u32.signed=true)=False:=by simp [IntKind.signed]
 clear h hq e1
 go_enter Tryz.func179,Tryz.ntmps179
 go_wp2_with fail
 go_ret2
 rw [E.out] at Q
 refine ⟨d,b',?_,hd,hb',H.out,rfl⟩
 simp only [E.out,E2.out,Q.out]
 rfl
end Big
end Go.Proofs.YtaccjdbbkmhanaaGreatDoor
