import Derived.Test.YtaccjdbbkmhanaaGreatDoorM31
import Derived.Test.YtaccjdbbkmhanaaGreatDoorM27
import Derived.Test.YtaccjdbbkmhanaaGreatDoorM16
import Derived.Test.YtaccjdbbkmhanaaGreatDoorM28
namespace Go.Proofs.YtaccjdbbkmhanaaGreatDoor
namespace Big
open Go.RowKit
def BadC (g:Nat) (ts:List Tok) (tv:Value) (F:FuncId):Prop:=∀w a ns lg nv,RdR g w ts a true ns lg tv nv→Calls Tryz.prog F #[.pointer (some ⟨g,0,none⟩)] w fun e w'=>e= .returned (.tuple #[])∧KR g nv nv w w'∧RdR g w' ts a true ns lg tv nv
set_option maxRecDepth 100000 in
theorem ratom_bad (g:Nat) (ts:List Tok) (tv:Value):BadC g ts tv 138:=by
 intro w a ns lg nv h
 have H:=Lib.hid h
 obtain ⟨⟨k0,k1,k2,k3,k4⟩,⟨f1,f2,f3,f4⟩,hg⟩:=h.blk.five'
 clear h
 go_enter Tryz.func138,Tryz.ntmps138
 go_wp2_with fail
 go_quiet (fail)
 go_wp2_with fail
 (try simp only [Exit.inBlock,Exit.then])
 refine bodyPost_ret (results_none rfl _ _ _) rfl ?_
 have h3:=(H.out.keep ((Ext.refl w).drewN nq)).fail
 exact ⟨rfl,(KR.of_ext ((Ext.refl w).drewN nq)).trans h3.2,h3.1⟩
set_option maxRecDepth 100000 in
theorem rpower_bad (g:Nat) (ts:List Tok) (tv:Value):BadC g ts tv 112:=by
 intro w a ns lg nv h
 have HI1:=Lib.hid (fun W a ns lg nv h=>is_any g W ts a true ns lg tv nv [94] h)
 rw [show str [94]= .string ⟨#[94]⟩ from rfl] at HI1
 simp only [Bool.not_true,Bool.false_and] at HI1
 have HE:Hid (KR g nv nv w w∧RdR g w ts a true ns lg tv nv):=Lib.hid ⟨KR.of_ext (Ext.refl w),h⟩
 clear h
 go_enter Tryz.func112,Tryz.ntmps112
 go_wp2_with fail
 refine (ratom_bad g ts tv _ _ _ _ _ HE.out.2).mono ?_
 rintro e w1 ⟨rfl,hk,hr⟩
 have HE:=Lib.hid (And.intro (HE.out.1.trans hk) hr)
 clear hk hr
 go_wp2_with fail
 refine (HI1.out _ _ _ _ _ HE.out.2).mono ?_
 rintro e w2 ⟨rfl,hd⟩
 have HE:=Lib.hid (And.intro (HE.out.1.trans (KR.of_ext hd.ext)) (HE.out.2.keep hd.ext))
 clear hd
 go_wp2_with fail
 (try simp only [Exit.inBlock,Exit.then])
 first
  |refine bodyPost_ret (results_none rfl _ _ _) rfl ?_
  |refine bodyPost_end (results_none rfl _ _ _) rfl ?_
 exact ⟨rfl,HE.out.1,HE.out.2⟩
set_option maxRecDepth 100000 in
theorem rminus_bad (g:Nat) (ts:List Tok) (tv:Value):BadC g ts tv 91:=by
 intro w a ns lg nv h
 have HI1:=Lib.hid (fun W a ns lg nv h=>is_any g W ts a true ns lg tv nv [45] h)
 rw [show str [45]= .string ⟨#[45]⟩ from rfl] at HI1
 simp only [Bool.not_true,Bool.false_and] at HI1
 have HE:Hid (KR g nv nv w w∧RdR g w ts a true ns lg tv nv):=Lib.hid ⟨KR.of_ext (Ext.refl w),h⟩
 clear h
 go_enter Tryz.func91,Tryz.ntmps91
 go_wp2_with fail
 refine (HI1.out _ _ _ _ _ HE.out.2).mono ?_
 rintro e w1 ⟨rfl,hd⟩
 have HE:=Lib.hid (And.intro (HE.out.1.trans (KR.of_ext hd.ext)) (HE.out.2.keep hd.ext))
 clear hd
 go_wp2_with fail
 refine (rpower_bad g ts tv _ _ _ _ _ HE.out.2).mono ?_
 rintro e w2 ⟨rfl,hk,hr⟩
 have HE:=Lib.hid (And.intro (HE.out.1.trans hk) hr)
 clear hk hr
 go_wp2_with fail
 (try simp only [Exit.inBlock,Exit.then])
 first
  |refine bodyPost_ret (results_none rfl _ _ _) rfl ?_
  |refine bodyPost_end (results_none rfl _ _ _) rfl ?_
 exact ⟨rfl,HE.out.1,HE.out.2⟩
set_option maxRecDepth 100000 in
theorem rproduct_bad (g:Nat) (ts:List Tok) (tv:Value):BadC g ts tv 71:=by
 intro w a ns lg nv h
 have HI1:=Lib.hid (fun W a ns lg nv h=>is_any g W ts a true ns lg tv nv [42] h)
 rw [show str [42]= .string ⟨#[42]⟩ from rfl] at HI1
 simp only [Bool.not_true,Bool.false_and] at HI1
 have HI2:=Lib.hid (fun W a ns lg nv h=>is_any g W ts a true ns lg tv nv [47] h)
 rw [show str [47]= .string ⟨#[47]⟩ from rfl] at HI2
 simp only [Bool.not_true,Bool.false_and] at HI2
 have HE:Hid (KR g nv nv w w∧RdR g w ts a true ns lg tv nv):=Lib.hid ⟨KR.of_ext (Ext.refl w),h⟩
 clear h
 go_enter Tryz.func71,Tryz.ntmps71
 go_wp2_with fail
 refine (rminus_bad g ts tv _ _ _ _ _ HE.out.2).mono ?_
 rintro e w1 ⟨rfl,hk,hr⟩
 have HE:=Lib.hid (And.intro (HE.out.1.trans hk) hr)
 clear hk hr
 go_wp2_with fail
 go_loopw [] (fun wr=>KR g nv nv w wr∧RdR g wr ts a true ns lg tv nv) (fun _=>0)
 case atStart=>exact HE.out
 case round=>
  have HE:=Lib.hid hrel
  clear hrel
  go_wp2_with fail
  refine (HI1.out _ _ _ _ _ HE.out.2).mono ?_
  rintro e w2 ⟨rfl,hd⟩
  have HE:=Lib.hid (And.intro (HE.out.1.trans (KR.of_ext hd.ext)) (HE.out.2.keep hd.ext))
  clear hd
  go_wp2_with fail
  refine (HI2.out _ _ _ _ _ HE.out.2).mono ?_
  rintro e w3 ⟨rfl,hd⟩
  have HE:=Lib.hid (And.intro (HE.out.1.trans (KR.of_ext hd.ext)) (HE.out.2.keep hd.ext))
  clear hd
  go_wp2_with fail
  (try simp only [Exit.inBlock,Exit.then])
  first
   |refine bodyPost_ret (results_none rfl _ _ _) rfl ?_
   |refine bodyPost_end (results_none rfl _ _ _) rfl ?_
  exact ⟨rfl,HE.out.1,HE.out.2⟩
set_option maxRecDepth 100000 in
theorem rsum_bad (g:Nat) (ts:List Tok) (tv:Value):BadC g ts tv 51:=by
 intro w a ns lg nv h
 have HI1:=Lib.hid (fun W a ns lg nv h=>is_any g W ts a true ns lg tv nv [43] h)
 rw [show str [43]= .string ⟨#[43]⟩ from rfl] at HI1
 simp only [Bool.not_true,Bool.false_and] at HI1
 have HI2:=Lib.hid (fun W a ns lg nv h=>is_any g W ts a true ns lg tv nv [45] h)
 rw [show str [45]= .string ⟨#[45]⟩ from rfl] at HI2
 simp only [Bool.not_true,Bool.false_and] at HI2
 have HE:Hid (KR g nv nv w w∧RdR g w ts a true ns lg tv nv):=Lib.hid ⟨KR.of_ext (Ext.refl w),h⟩
 clear h
 go_enter Tryz.func51,Tryz.ntmps51
 go_wp2_with fail
 refine (rproduct_bad g ts tv _ _ _ _ _ HE.out.2).mono ?_
 rintro e w1 ⟨rfl,hk,hr⟩
 have HE:=Lib.hid (And.intro (HE.out.1.trans hk) hr)
 clear hk hr
 go_wp2_with fail
 go_loopw [] (fun wr=>KR g nv nv w wr∧RdR g wr ts a true ns lg tv nv) (fun _=>0)
 case atStart=>exact HE.out
 case round=>
  have HE:=Lib.hid hrel
  clear hrel
  go_wp2_with fail
  refine (HI1.out _ _ _ _ _ HE.out.2).mono ?_
  rintro e w2 ⟨rfl,hd⟩
  have HE:=Lib.hid (And.intro (HE.out.1.trans (KR.of_ext hd.ext)) (HE.out.2.keep hd.ext))
  clear hd
  go_wp2_with fail
  refine (HI2.out _ _ _ _ _ HE.out.2).mono ?_
  rintro e w3 ⟨rfl,hd⟩
  have HE:=Lib.hid (And.intro (HE.out.1.trans (KR.of_ext hd.ext)) (HE.out.2.keep hd.ext))
  clear hd
  go_wp2_with fail
  (try simp only [Exit.inBlock,Exit.then])
  first
   |refine bodyPost_ret (results_none rfl _ _ _) rfl ?_
   |refine bodyPost_end (results_none rfl _ _ _) rfl ?_
  exact ⟨rfl,HE.out.1,HE.out.2⟩
end Big
end Go.Proofs.YtaccjdbbkmhanaaGreatDoor
namespace Go.Proofs.YtaccjdbbkmhanaaGreatDoor
namespace Big
open Go.RowKit
def OpPostR (g:Nat) (ts:List Tok) (tv:Value) (ns:List Nd) (nv:Value) (lg:Bool) (r:Option Ex × Nat) (w:World) (e:Ending) (w':World):Prop:=
 e= .returned (.tuple #[])∧∃nv',KR g nv nv' w w'∧match r with
  |(some x,b)=>RdR g w' ts b false (ns++flat ns.length x) (lg || x.big) tv nv'
  |(none,b)=>∃ns' lg',RdR g w' ts b true ns' lg' tv nv'
section
variable {g:Nat} {ts:List Tok} {tv nv nv':Value} {ns:List Nd} {lg:Bool} {r:Option Ex × Nat} {w w':World} {e:Ending} {x:Ex} {b:Nat}
theorem OpPostR.some_ (h:OpPostR g ts tv ns nv lg r w e w') (hr:r=(some x,b)):e= .returned (.tuple #[])∧∃nv',RdR g w' ts b false (ns++flat ns.length x) (lg || x.big) tv nv'∧KR g nv nv' w w':=by
 subst hr
 obtain ⟨h1,nv',h2,h3⟩:=h
 exact ⟨h1,nv',h3,h2⟩
theorem OpPostR.none_ (h:OpPostR g ts tv ns nv lg r w e w') (hr:r=(none,b)):e= .returned (.tuple #[])∧∃nv' ns' lg',RdR g w' ts b true ns' lg' tv nv'∧KR g nv nv' w w':=by
 subst hr
 obtain ⟨h1,nv',h2,ns',lg',h3⟩:=h
 exact ⟨h1,nv',ns',lg',h3,h2⟩
theorem OpPostR.mkN {ns':List Nd} {lg':Bool} (hr:r=(none,b)) (hk:KR g nv nv' w w') (h:RdR g w' ts b true ns' lg' tv nv'):OpPostR g ts tv ns nv lg r w (.returned (.tuple #[])) w':=by
 subst hr
 exact ⟨rfl,nv',hk,ns',lg',h⟩
theorem OpPostR.mkS (hr:r=(some x,b)) (hk:KR g nv nv' w w') (h:RdR g w' ts b false (ns++flat ns.length x) (lg || x.big) tv nv'):OpPostR g ts tv ns nv lg r w (.returned (.tuple #[])) w':=by
 subst hr
 exact ⟨rfl,nv',hk,h⟩
theorem KR.kept1 {n1 n2:Value} {q:Nat} {t:TypeId} {cs:Array Value} (hk:KR g n1 n2 w w') (hb:Blk w q t cs) (h1:q≠g) (h2:n1.ownBlock≠some q):Blk w' q t cs∧n2.ownBlock≠some q:=by
 refine ⟨hk.blk hb h1 h2,fun e=> ?_⟩
 have:=hb.lt
 rcases hk.move _ e with h|h
 ·exact h2 h
 ·omega
theorem RdR.as (h:RdR g w ts b false ns lg tv nv) {lg':Bool} (hl:lg=lg') {ns':List Nd} (hn:ns=ns'):RdR g w ts b false ns' lg' tv nv:=by subst hl;subst hn;exact h
end
theorem pAtom_grp (p:Nat→Option Ex × Nat) {ts:List Tok} {a:Nat} (hlt2:a<ts.length):pAtom p ts a=(if ts[a].kind=3 then grpR p ts a
   else if ts[a].kind=1 then (some (.leaf 1 ts[a].text),a+1)
   else if funcK ts[a].text≠0 then (match grpR p ts (a+1) with|(none,b)=>(none,b)|(some x,b)=>(some (.un (funcK ts[a].text) 0 x),b))
   else if ts[a].text=[112,105] then (some (.leaf 3 []),a+1)
   else if ts[a].text=[101] then (some (.leaf 4 []),a+1)
   else (some (.leaf 2 ts[a].text),a+1)):=by
 have hs:isS ts a [40]=((ts[a].kind == 3) && (ts[a].text == [40])):=by
  unfold isS
  rw [List.getElem?_eq_getElem hlt2]
 unfold pAtom
 rw [List.getElem?_eq_getElem hlt2]
 simp only
 by_cases h3:ts[a].kind=3
 ·rw [if_pos h3,if_pos h3]
  unfold grpR
  rw [hs,h3]
  by_cases h4:ts[a].text=[40]
  ·rw [if_pos h4,h4];rfl
  ·rw [if_neg h4,if_neg (by simp [h4])]
 ·rw [if_neg h3,if_neg h3]
  split
  ·rfl
  ·split
   ·unfold grpR
    by_cases h5:isS ts (a+1) [40]=true
    ·rw [if_pos h5,if_pos h5]
     rcases p (a+1+1) with ⟨_|x,b⟩
     ·rfl
     ·simp only
      by_cases h6:isS ts b [41]=true
      ·rw [if_pos h6,if_pos h6]
      ·rw [if_neg h6,if_neg h6]
    ·rw [if_neg h5,if_neg h5]
   ·rfl
theorem ownsRow_mlt {B sz n:Nat} {e:TypeId} {w:World} {v:Value} {xs:List Value} (h:w.ownsRow B e sz v n xs) (g:Nat) (hg:v.ownBlock=some g):g<w.heap.size:=by
 rcases h.2 with ⟨rfl,h2⟩|⟨g',cap,cur,rfl,hb,hh,_⟩
 ·cases hg
 ·simp only [Value.ownBlock,Option.some.injEq] at hg
  subst hg
  rcases Nat.lt_or_ge g' w.heap.size with h|h
  ·exact h
  ·rw [Array.getElem?_eq_none h] at hh;cases hh
def SumR (g:Nat) (ts:List Tok) (tv:Value) (f a:Nat):Prop:=
 ∀w ns lg nv,RdR g w ts a false ns lg tv nv→Calls Tryz.prog 51 #[.pointer (some ⟨g,0,none⟩)] w (OpPostR g ts tv ns nv lg (pSum ts f a) w)
theorem funcK_sign (c:UInt8) (h:signN c.toNat=true):funcK [c]=0∧([c]:List UInt8)≠[112,105]∧([c]:List UInt8)≠[101]:=by
 have hall:∀n:Fin 256,signN n.val=true→funcK [UInt8.ofNat n.val]=0∧n.val≠101:=by decide+kernel
 have h1:=hall ⟨c.toNat,UInt8.toNat_lt c⟩ h
 rw [UInt8.ofNat_toNat] at h1
 refine ⟨h1.1,by simp,fun e=>h1.2 ?_⟩
 injection e with e _
 rw [e];rfl
set_option maxHeartbeats 4000000 in
set_option maxRecDepth 100000 in
theorem ratom_any (g:Nat) (ts:List Tok) (tv:Value) (f a:Nat) (hfi:∀t∈ts,TokFine t) (hs:∀a',a<a'→SumR g ts tv f a') (w:World) (ns:List Nd) (lg:Bool) (nv:Value) (h:RdR g w ts a false ns lg tv nv):
  Calls Tryz.prog 138 #[.pointer (some ⟨g,0,none⟩)] w (OpPostR g ts tv ns nv lg (pAtom (pSum ts f) ts a) w):=by
 have H:=Lib.hid h
 have HS:=Lib.hid hs
 have hrow:=h.row
 obtain ⟨A,c0,rfl,hcell⟩:=h.tok
 have hown:nv.ownBlock≠some w.heap.size:=fun e=>by have:=(ownsRow_mlt h.row _ e);omega
 have HOWN:=Lib.hid hown
 obtain ⟨A2,c2,rfl⟩:=hrow.shape
 have hle:=h.le
 have hmax:=h.max
 have hfew:=h.few
 obtain ⟨⟨k0,k1,k2,k3,k4⟩,⟨f1,f2,f3,f4⟩,hg⟩:=h.blk.five'
 clear h hs hrow hown
 obtain ⟨n,hnt⟩:∃n,n=ts.length:=⟨_,rfl⟩
 rw [←hnt] at k0 hle hmax
 have HNT:=Lib.hid hnt
 clear hnt
 rcases Nat.lt_or_ge a n with hlt|hge
 ·have hlt2:a<ts.length:=by rw [←HNT.out];exact hlt
  obtain ⟨b,rfl,hbg,_,hc⟩:=hcell (by omega)
  obtain ⟨q0,q1,q2⟩:=hc a hlt2
  have hfine:ts[a].kind=1∨ts[a].kind=2∨(ts[a].kind=3∧∃c:UInt8,ts[a].text=[c]∧signN c.toNat=true):=by
   rcases hfi ts[a] (List.getElem_mem hlt2) with ⟨h,_⟩|⟨h,_⟩|⟨h,c,h2,h3⟩
   ·exact .inl h
   ·exact .inr (.inl h)
   ·exact .inr (.inr ⟨h,c,h2,h3⟩)
  have hI:∀p,pAtom p ts a=(if ts[a].kind=3 then grpR p ts a
   else if ts[a].kind=1 then (some (.leaf 1 ts[a].text),a+1)
   else if funcK ts[a].text≠0 then (match grpR p ts (a+1) with|(none,b)=>(none,b)|(some x,b)=>(some (.un (funcK ts[a].text) 0 x),b))
   else if ts[a].text=[112,105] then (some (.leaf 3 []),a+1)
   else if ts[a].text=[101] then (some (.leaf 4 []),a+1)
   else (some (.leaf 2 ts[a].text),a+1)):=fun p=>pAtom_grp p hlt2
  have HP:=Lib.hid (hI (pSum ts f))
  have hi40:isS ts a [40]=((ts[a].kind == 3) && (ts[a].text == [40])):=by
   unfold isS
   rw [List.getElem?_eq_getElem hlt2]
  clear hI hcell hc hfi
  generalize ts[a].kind=tk at *
  generalize ts[a].text=tx at *
  generalize ts[a].at_=ta at *
  generalize hR:pAtom (pSum ts f) ts a=R at *
  clear hR
  have z1:decide (n≤a)=false:=decide_eq_false (by omega)
  have z2:¬(n:Int)≤(a:Int):=by omega
  have hw1:IntKind.i64.wrap ((a:Int)+1)=(a:Int)+1:=IntWalk.i64_in _ (by omega)
  go_enter Tryz.func138,Tryz.ntmps138
  go_wp2_with fail
  go_quiet (fail)
  obtain ⟨w1,hw1'⟩:∃w1,w1=w.drewN nq:=⟨_,rfl⟩
  rw [←hw1']
  have hd:Dr w w1:=by rw [hw1'];exact (Dr.refl w).drewN _
  have hsz1:w1.heap.size=w.heap.size:=by rw [hd.heap]
  have hg1:g<w1.heap.size:=by omega
  rw [←hd.cell] at k0 k1 k2 k3 k4 q0 q1 q2
  have HD1:=Lib.hid hd.ext
  have HOWN1:Hid ((Value.slice A2 ns.length c2).ownBlock≠some w1.heap.size):=Lib.hid (by rw [hsz1];exact HOWN.out)
  have hbw:b<w1.heap.size:=by omega
  clear hw1' hd hsz1 f1 f2 f3 f4
  go_upto_region 2 with fail
  go_region
  obtain ⟨w2,hw2⟩:∃w2,w2=(w1.alloc (.cells #[.int .i64 (tk:Int),.int .i64 (ta:Int),str tx] 92)).drew:=⟨_,rfl⟩
  rw [←hw2]
  have hx2:Ext w1 w2:=by rw [hw2];exact ((Ext.refl w1).alloc _).drew
  have hb2:Blk w2 w1.heap.size 92 #[.int .i64 (tk:Int),.int .i64 (ta:Int),str tx]:=by rw [hw2];exact (Blk.new w1 _ _).drew
  have HX2:=Lib.hid (HD1.out.trans hx2)
  have HR2:=Lib.hid (H.out.keep (HD1.out.trans hx2))
  have HB2:=Lib.hid hb2
  obtain ⟨j0,j1,j2,_⟩:=hb2.three'
  obtain ⟨⟨k0,k1,k2,k3,k4⟩,⟨f1,f2,f3,f4⟩,hg2⟩:=HR2.out.blk.five'
  clear hw2 hx2 hb2 q0 q1 q2 z1 z2 hbw
  generalize w1.heap.size=gt at *
  have HGT:=Lib.hid hg1
  have hred:∀q:Nat,(lg || (Ex.leaf q []).big)=lg:=fun q=>by rw [Ex.big,Bool.or_false]
  clear hred
  by_cases h1:tk=1
  ·subst h1
   have HRG:Hid (R=(some (.leaf 1 tx),a+1)):=Lib.hid (by rw [HP.out,if_neg (by decide),if_pos rfl])
   clear HP HS hi40 hfine
   go_upto_region 6 with fail
   have hst:=HR2.out.stepR hlt2
   obtain ⟨w3,hw3⟩:∃w3,w3=w2.setCell ⟨g,1,none⟩ (.int .i64 ((a:Int)+1)):=⟨_,rfl⟩
   rw [←hw3] at hst ⊢
   have hb3:Blk w3 gt 92 #[.int .i64 ((1:Nat):Int),.int .i64 (ta:Int),str tx]:=by
    rw [hw3]
    exact HB2.out.far (p:=⟨g,1,none⟩) (by show gt≠g;have:=HGT.out;omega) _
   have HB3:=Lib.hid hb3
   have HR3:=Lib.hid hst.1
   have HK3:=Lib.hid ((KR.of_ext HX2.out).trans hst.2)
   obtain ⟨j0,j1,j2,_⟩:=hb3.three'
   clear hst hw3 hb3 k0 k1 k2 k3 k4 f1 f2 f3 f4
   have HPU:=Lib.hid (put_any g w3 ts (a+1) false ns lg _ _ 1 0 0 tx HR3.out (by omega))
   go_wp2_with fail
   refine HPU.out.mono ?_
   rintro e w4 ⟨nv2,rfl,hk4,hr4⟩
   have HE:=Lib.hid (And.intro (HK3.out.trans hk4) hr4)
   clear hk4 hr4
   go_wp2_with fail
   (try simp only [Exit.inBlock,Exit.then])
   first
    |refine bodyPost_ret (results_none rfl _ _ _) rfl ?_
    |refine bodyPost_end (results_none rfl _ _ _) rfl ?_
   exact OpPostR.mkS HRG.out HE.out.1 (HE.out.2.as (by rw [Ex.big,Bool.or_false]) rfl)
  ·have h1b:((tk:Int) == 1)=false:=by rw [beq_eq_false_iff_ne];omega
   by_cases h3:tk=3
   ·subst h3
    obtain ⟨hfk0,hpi,hep⟩:funcK tx=0∧tx≠[112,105]∧tx≠[101]:=by
     rcases hfine with h|h|⟨_,c,h,hs⟩
     ·omega
     ·omega
     ·rw [h]
      exact funcK_sign c hs
    have hpb:(tx == [112,105])=false:=by rw [beq_eq_false_iff_ne];exact hpi
    have heb:(tx == [101])=false:=by rw [beq_eq_false_iff_ne];exact hep
    have HRG:Hid (R=grpR (pSum ts f) ts a):=Lib.hid (by rw [HP.out,if_pos rfl])
    have HFN:=Lib.hid (rfunction_any w2 tx)
    rw [hfk0] at HFN
    have HI40:=Lib.hid (fun W v h=>is_any g W ts a false ns lg v (.slice A2 ns.length c2) [40] h)
    rw [show str [40]= .string ⟨#[40]⟩ from rfl] at HI40
    simp only [Bool.not_false,Bool.true_and] at HI40
    clear HP hi40 hfine hfk0 hpi hep h1
    go_wp2_with fail
    refine HFN.out.mono ?_
    rintro e w3 ⟨rfl,hx3⟩
    have HX3:=Lib.hid (HX2.out.trans hx3)
    have hr3:=HR2.out.keep hx3
    have HR3:=Lib.hid hr3
    obtain ⟨j0,j1,j2,_⟩:=(HB2.out.ext hx3).three'
    clear hx3 hr3 k0 k1 k2 k3 k4 f1 f2 f3 f4
    obtain ⟨u1,hu1⟩:∃u,isS ts a [40]=u:=⟨_,rfl⟩
    rw [hu1] at HI40
    cases u1
    ·have HD:=Lib.hid (HRG.out.trans (grpR_no hu1))
     clear hu1 HS
     go_wp2_with fail
     refine (HI40.out _ _ HR3.out).mono ?_
     rintro e w4 ⟨rfl,hd4⟩
     have hr4:=HR3.out.keep hd4.ext
     have HR4:=Lib.hid hr4
     have HX4:=Lib.hid (HX3.out.trans hd4.ext)
     obtain ⟨⟨k0,k1,k2,k3,k4⟩,⟨f1,f2,f3,f4⟩,hg4⟩:=hr4.blk.five'
     clear hd4 hr4
     go_wp2_with fail
     (try simp only [Exit.inBlock,Exit.then])
     first
      |refine bodyPost_ret (results_none rfl _ _ _) rfl ?_
      |refine bodyPost_end (results_none rfl _ _ _) rfl ?_
     have h5:=HR4.out.fail
     exact OpPostR.mkN HD.out ((KR.of_ext HX4.out).trans h5.2) h5.1
    ·have HU1:=Lib.hid hu1
     clear hu1
     go_wp2_with fail
     refine (HI40.out _ _ HR3.out).mono ?_
     rintro e w4 ⟨rfl,hd4⟩
     have hr4:=HR3.out.keep hd4.ext
     have HR4:=Lib.hid hr4
     have HX4:=Lib.hid (HX3.out.trans hd4.ext)
     obtain ⟨⟨k0,k1,k2,k3,k4⟩,⟨f1,f2,f3,f4⟩,hg4⟩:=hr4.blk.five'
     clear hd4 hr4
     go_upto_region 25 with fail
     have hst:=HR4.out.stepR hlt2
     obtain ⟨w5,hw5⟩:∃w5,w5=w4.setCell ⟨g,1,none⟩ (.int .i64 ((a:Int)+1)):=⟨_,rfl⟩
     rw [←hw5] at hst ⊢
     have HK5:=Lib.hid ((KR.of_ext HX4.out).trans hst.2)
     have HSM:=Lib.hid (HS.out (a+1) (by omega) w5 ns lg _ hst.1)
     clear hst hw5 k0 k1 k2 k3 k4 f1 f2 f3 f4
     go_wp2_with fail
     refine HSM.out.mono ?_
     intro e w6 hpost
     obtain ⟨r,hr⟩:∃r,pSum ts f (a+1)=r:=⟨_,rfl⟩
     obtain ⟨_|x,b2⟩:=r
     ·obtain ⟨rfl,nv1,ns1,lg1,hrd,hk⟩:=hpost.none_ hr
      have HD:=Lib.hid (HRG.out.trans (grpR_none HU1.out hr))
      have HEX:=Lib.hid (expect_any g w6 ts b2 true ns1 lg1 _ nv1 [41] hrd)
      rw [show str [41]= .string ⟨#[41]⟩ from rfl] at HEX
      simp only [Bool.not_true,Bool.false_and,Bool.false_eq_true,if_false,Bool.not_false] at HEX
      have HK6:=Lib.hid (HK5.out.trans hk)
      clear hpost hr hrd hk
      go_wp2_with fail
      refine HEX.out.mono ?_
      rintro e w7 ⟨rfl,hk7,hr7⟩
      have HE:=Lib.hid (And.intro (HK6.out.trans hk7) hr7)
      clear hk7 hr7
      go_wp2_with fail
      (try simp only [Exit.inBlock,Exit.then])
      first
       |refine bodyPost_ret (results_none rfl _ _ _) rfl ?_
       |refine bodyPost_end (results_none rfl _ _ _) rfl ?_
      exact OpPostR.mkN HD.out HE.out.1 HE.out.2
     ·obtain ⟨rfl,nv1,hrd,hk⟩:=hpost.some_ hr
      have HRR:=Lib.hid hr
      have HEX:=Lib.hid (expect_any g w6 ts b2 false _ _ _ nv1 [41] hrd)
      rw [show str [41]= .string ⟨#[41]⟩ from rfl] at HEX
      simp only [Bool.not_false,Bool.true_and] at HEX
      have HK6:=Lib.hid (HK5.out.trans hk)
      clear hpost hr hrd hk
      obtain ⟨u2,hu2⟩:∃u,isS ts b2 [41]=u:=⟨_,rfl⟩
      rw [hu2] at HEX
      cases u2
      ·have HD:=Lib.hid (HRG.out.trans (grpR_bad HU1.out HRR.out hu2))
       simp only [Bool.false_eq_true,if_false,Bool.not_false] at HEX
       clear hu2
       go_wp2_with fail
       refine HEX.out.mono ?_
       rintro e w7 ⟨rfl,hk7,hr7⟩
       have HE:=Lib.hid (And.intro (HK6.out.trans hk7) hr7)
       clear hk7 hr7
       go_wp2_with fail
       (try simp only [Exit.inBlock,Exit.then])
       first
        |refine bodyPost_ret (results_none rfl _ _ _) rfl ?_
        |refine bodyPost_end (results_none rfl _ _ _) rfl ?_
       exact OpPostR.mkN HD.out HE.out.1 HE.out.2
      ·have HD:=Lib.hid (HRG.out.trans (grpR_ok HU1.out HRR.out hu2))
       simp only [if_true,Bool.not_true] at HEX
       clear hu2
       go_wp2_with fail
       refine HEX.out.mono ?_
       rintro e w7 ⟨rfl,hk7,hr7⟩
       have HE:=Lib.hid (And.intro (HK6.out.trans hk7) hr7)
       clear hk7 hr7
       go_wp2_with fail
       (try simp only [Exit.inBlock,Exit.then])
       first
        |refine bodyPost_ret (results_none rfl _ _ _) rfl ?_
        |refine bodyPost_end (results_none rfl _ _ _) rfl ?_
       exact OpPostR.mkS HD.out HE.out.1 HE.out.2
   ·have hk2:tk=2:=by
     rcases hfine with h|h|⟨h,_⟩
     ·exact absurd h h1
     ·exact h
     ·exact absurd h h3
    subst hk2
    clear hfine hi40 h1b
    by_cases hpi:tx=[112,105]
    ·have hpb:(tx == [112,105])=true:=by rw [beq_iff_eq];exact hpi
     have heb:(tx == [101])=false:=by rw [beq_eq_false_iff_ne,hpi];decide
     have HRG:Hid (R=(some (.leaf 3 []),a+1)):=Lib.hid (by rw [HP.out,if_neg (by decide),if_neg (by decide),hpi];rfl)
     clear HP HS hpi
     go_upto_region 9 with fail
     have hst:=HR2.out.stepR hlt2
     obtain ⟨w3,hw3⟩:∃w3,w3=w2.setCell ⟨g,1,none⟩ (.int .i64 ((a:Int)+1)):=⟨_,rfl⟩
     rw [←hw3] at hst ⊢
     have hb3:Blk w3 gt 92 #[.int .i64 ((2:Nat):Int),.int .i64 (ta:Int),str tx]:=by
      rw [hw3]
      exact HB2.out.far (p:=⟨g,1,none⟩) (by show gt≠g;have:=HGT.out;omega) _
     have HB3:=Lib.hid hb3
     have HR3:=Lib.hid hst.1
     have HK3:=Lib.hid ((KR.of_ext HX2.out).trans hst.2)
     obtain ⟨j0,j1,j2,_⟩:=hb3.three'
     clear hst hw3 hb3 k0 k1 k2 k3 k4 f1 f2 f3 f4
     have HPU:=Lib.hid (put_any g w3 ts (a+1) false ns lg _ _ 3 0 0 [] HR3.out (by omega))
     rw [show str []= .string ⟨#[]⟩ from rfl] at HPU
     go_wp2_with fail
     refine HPU.out.mono ?_
     rintro e w4 ⟨nv2,rfl,hk4,hr4⟩
     have HE:=Lib.hid (And.intro (HK3.out.trans hk4) hr4)
     clear hk4 hr4
     go_wp2_with fail
     (try simp only [Exit.inBlock,Exit.then])
     first
      |refine bodyPost_ret (results_none rfl _ _ _) rfl ?_
      |refine bodyPost_end (results_none rfl _ _ _) rfl ?_
     exact OpPostR.mkS HRG.out HE.out.1 (HE.out.2.as (by rw [Ex.big,Bool.or_false]) rfl)
    ·have hpb:(tx == [112,105])=false:=by rw [beq_eq_false_iff_ne];exact hpi
     by_cases hep:tx=[101]
     ·have heb:(tx == [101])=true:=by rw [beq_iff_eq];exact hep
      have HRG:Hid (R=(some (.leaf 4 []),a+1)):=Lib.hid (by rw [HP.out,if_neg (by decide),if_neg (by decide),hep];rfl)
      clear HP HS hpi hep
      go_upto_region 9 with fail
      have hst:=HR2.out.stepR hlt2
      obtain ⟨w3,hw3⟩:∃w3,w3=w2.setCell ⟨g,1,none⟩ (.int .i64 ((a:Int)+1)):=⟨_,rfl⟩
      rw [←hw3] at hst ⊢
      have hb3:Blk w3 gt 92 #[.int .i64 ((2:Nat):Int),.int .i64 (ta:Int),str tx]:=by
       rw [hw3]
       exact HB2.out.far (p:=⟨g,1,none⟩) (by show gt≠g;have:=HGT.out;omega) _
      have HB3:=Lib.hid hb3
      have HR3:=Lib.hid hst.1
      have HK3:=Lib.hid ((KR.of_ext HX2.out).trans hst.2)
      obtain ⟨j0,j1,j2,_⟩:=hb3.three'
      clear hst hw3 hb3 k0 k1 k2 k3 k4 f1 f2 f3 f4
      have HPU:=Lib.hid (put_any g w3 ts (a+1) false ns lg _ _ 4 0 0 [] HR3.out (by omega))
      rw [show str []= .string ⟨#[]⟩ from rfl] at HPU
      go_wp2_with fail
      refine HPU.out.mono ?_
      rintro e w4 ⟨nv2,rfl,hk4,hr4⟩
      have HE:=Lib.hid (And.intro (HK3.out.trans hk4) hr4)
      clear hk4 hr4
      go_wp2_with fail
      (try simp only [Exit.inBlock,Exit.then])
      first
       |refine bodyPost_ret (results_none rfl _ _ _) rfl ?_
       |refine bodyPost_end (results_none rfl _ _ _) rfl ?_
      exact OpPostR.mkS HRG.out HE.out.1 (HE.out.2.as (by rw [Ex.big,Bool.or_false]) rfl)
     ·have heb:(tx == [101])=false:=by rw [beq_eq_false_iff_ne];exact hep
      have HFN:=Lib.hid (fun W=>rfunction_any W tx)
      by_cases hf0:funcK tx=0
      ·rw [hf0] at HFN
       have HRG:Hid (R=(some (.leaf 2 tx),a+1)):=Lib.hid (by rw [HP.out,if_neg (by decide),if_neg (by decide),if_neg (by rw [hf0];simp),if_neg hpi,if_neg hep])
       clear HP HS hpi hep hf0
       go_wp2_with fail
       refine (HFN.out _).mono ?_
       rintro e w2' ⟨rfl,hx3⟩
       have HX2':=Lib.hid (HX2.out.trans hx3)
       have hr3:=HR2.out.keep hx3
       have HR2':=Lib.hid hr3
       have HB2':=Lib.hid (HB2.out.ext hx3)
       obtain ⟨j0,j1,j2,_⟩:=HB2'.out.three'
       obtain ⟨⟨k0,k1,k2,k3,k4⟩,⟨f1,f2,f3,f4⟩,hg2⟩:=hr3.blk.five'
       clear hx3 hr3 HX2 HR2 HB2
       generalize HX2'=HX2 at *
       generalize HR2'=HR2 at *
       generalize HB2'=HB2 at *
       generalize w2'=w2 at *
       go_upto_region 22 with fail
       have hst:=HR2.out.stepR hlt2
       obtain ⟨w3,hw3⟩:∃w3,w3=w2.setCell ⟨g,1,none⟩ (.int .i64 ((a:Int)+1)):=⟨_,rfl⟩
       rw [←hw3] at hst ⊢
       have hb3:Blk w3 gt 92 #[.int .i64 ((2:Nat):Int),.int .i64 (ta:Int),str tx]:=by
        rw [hw3]
        exact HB2.out.far (p:=⟨g,1,none⟩) (by show gt≠g;have:=HGT.out;omega) _
       have HB3:=Lib.hid hb3
       have HR3:=Lib.hid hst.1
       have HK3:=Lib.hid ((KR.of_ext HX2.out).trans hst.2)
       obtain ⟨j0,j1,j2,_⟩:=hb3.three'
       clear hst hw3 hb3 k0 k1 k2 k3 k4 f1 f2 f3 f4
       have HPU:=Lib.hid (put_any g w3 ts (a+1) false ns lg _ _ 2 0 0 tx HR3.out (by omega))
       go_wp2_with fail
       refine HPU.out.mono ?_
       rintro e w4 ⟨nv2,rfl,hk4,hr4⟩
       have HE:=Lib.hid (And.intro (HK3.out.trans hk4) hr4)
       clear hk4 hr4
       go_wp2_with fail
       (try simp only [Exit.inBlock,Exit.then])
       first
        |refine bodyPost_ret (results_none rfl _ _ _) rfl ?_
        |refine bodyPost_end (results_none rfl _ _ _) rfl ?_
       exact OpPostR.mkS HRG.out HE.out.1 (HE.out.2.as (by rw [Ex.big,Bool.or_false]) rfl)
      ·have hfr:=funcK_range tx hf0
       have HP3:Hid (R=(match grpR (pSum ts f) ts (a+1) with|(none,b)=>(none,b)|(some x,b)=>(some (.un (funcK tx) 0 x),b))):=Lib.hid (by rw [HP.out,if_neg (by decide),if_neg (by decide),if_pos hf0])
       generalize hfk:funcK tx=fk at *
       have hfp:(0:Int)<(fk:Int):=by omega
       have HFR:=Lib.hid hfr
       clear HP hpi hep hf0 hfk
       go_wp2_with fail
       refine (HFN.out _).mono ?_
       rintro e w2' ⟨rfl,hx3⟩
       have HX2':=Lib.hid (HX2.out.trans hx3)
       have hr3:=HR2.out.keep hx3
       have HR2':=Lib.hid hr3
       have HB2':=Lib.hid (HB2.out.ext hx3)
       obtain ⟨j0,j1,j2,_⟩:=HB2'.out.three'
       obtain ⟨⟨k0,k1,k2,k3,k4⟩,⟨f1,f2,f3,f4⟩,hg2⟩:=hr3.blk.five'
       clear hx3 hr3 HX2 HR2 HB2
       generalize HX2'=HX2 at *
       generalize HR2'=HR2 at *
       generalize HB2'=HB2 at *
       generalize w2'=w2 at *
       go_upto_region 15 with fail
       have hst:=HR2.out.stepR hlt2
       obtain ⟨w3,hw3⟩:∃w3,w3=w2.setCell ⟨g,1,none⟩ (.int .i64 ((a:Int)+1)):=⟨_,rfl⟩
       rw [←hw3] at hst ⊢
       have hb3:Blk w3 gt 92 #[.int .i64 ((2:Nat):Int),.int .i64 (ta:Int),str tx]:=by
        rw [hw3]
        exact HB2.out.far (p:=⟨g,1,none⟩) (by show gt≠g;have:=HGT.out;omega) _
       have HB3:=Lib.hid hb3
       have HR3:=Lib.hid hst.1
       have HK3:=Lib.hid ((KR.of_ext HX2.out).trans hst.2)
       obtain ⟨j0,j1,j2,_⟩:=hb3.three'
       clear hst hw3 hb3 k0 k1 k2 k3 k4 f1 f2 f3 f4
       have hgtg:gt≠g:=by have:=HGT.out;omega
       have HEX:=Lib.hid (expect_any g w3 ts (a+1) false ns lg _ _ [40] HR3.out)
       rw [show str [40]= .string ⟨#[40]⟩ from rfl] at HEX
       simp only [Bool.not_false,Bool.true_and] at HEX
       obtain ⟨u1,hu1⟩:∃u,isS ts (a+1) [40]=u:=⟨_,rfl⟩
       rw [hu1] at HEX
       cases u1
       ·have HD:Hid (R=(none,a+1)):=Lib.hid (by rw [HP3.out,grpR_no hu1])
        simp only [Bool.false_eq_true,if_false,Bool.not_false] at HEX
        clear hu1 HS HP3
        go_wp2_with fail
        refine HEX.out.mono ?_
        rintro e w4 ⟨rfl,hk4,hr4⟩
        have HE:=Lib.hid (And.intro (HK3.out.trans hk4) hr4)
        clear hk4 hr4
        go_wp2_with fail
        refine (rsum_bad g ts _ _ _ _ _ _ HE.out.2).mono ?_
        rintro e w5 ⟨rfl,hk5,hr5⟩
        have HE2:=Lib.hid (And.intro (HE.out.1.trans hk5) hr5)
        have HEX2:=Lib.hid (expect_any g w5 ts _ true _ _ _ _ [41] hr5)
        rw [show str [41]= .string ⟨#[41]⟩ from rfl] at HEX2
        simp only [Bool.not_true,Bool.false_and,Bool.false_eq_true,if_false,Bool.not_false] at HEX2
        clear hk5 hr5
        go_wp2_with fail
        refine HEX2.out.mono ?_
        rintro e w6 ⟨rfl,hk6,hr6⟩
        have HE3:=Lib.hid (And.intro (HE2.out.1.trans hk6) hr6)
        obtain ⟨⟨k0,k1,k2,k3,k4⟩,_,hg6⟩:=hr6.blk.five'
        clear hk6 hr6
        go_wp2_with fail
        (try simp only [Exit.inBlock,Exit.then])
        first
         |refine bodyPost_ret (results_none rfl _ _ _) rfl ?_
         |refine bodyPost_end (results_none rfl _ _ _) rfl ?_
        exact OpPostR.mkN HD.out HE3.out.1 HE3.out.2
       ·simp only [if_true,Bool.not_true] at HEX
        have HU1:=Lib.hid hu1
        clear hu1
        go_wp2_with fail
        refine HEX.out.mono ?_
        rintro e w4 ⟨rfl,hk4,hr4⟩
        have HK4:=Lib.hid (HK3.out.trans hk4)
        have HQ4:=Lib.hid (hk4.kept1 HB3.out hgtg HOWN1.out)
        have HSM:=Lib.hid (HS.out (a+1+1) (by omega) w4 ns lg _ hr4)
        have hgood:=pSum_good ts f (a+1+1) hr4.le
        clear hk4 hr4 HS
        go_wp2_with fail
        refine HSM.out.mono ?_
        intro e w5 hpost
        obtain ⟨r,hr⟩:∃r,pSum ts f (a+1+1)=r:=⟨_,rfl⟩
        rw [hr] at hgood
        obtain ⟨_|x,b2⟩:=r
        ·obtain ⟨rfl,nv1,ns1,lg1,hrd,hk⟩:=hpost.none_ hr
         have HD:Hid (R=(none,b2)):=Lib.hid (by rw [HP3.out,grpR_none HU1.out hr])
         have HEX2:=Lib.hid (expect_any g w5 ts b2 true ns1 lg1 _ nv1 [41] hrd)
         rw [show str [41]= .string ⟨#[41]⟩ from rfl] at HEX2
         simp only [Bool.not_true,Bool.false_and,Bool.false_eq_true,if_false,Bool.not_false] at HEX2
         have HK5:=Lib.hid (HK4.out.trans hk)
         clear hpost hr hrd hk hgood HP3
         go_wp2_with fail
         refine HEX2.out.mono ?_
         rintro e w6 ⟨rfl,hk6,hr6⟩
         have HE3:=Lib.hid (And.intro (HK5.out.trans hk6) hr6)
         obtain ⟨⟨k0,k1,k2,k3,k4⟩,_,hg6⟩:=hr6.blk.five'
         clear hk6 hr6
         go_wp2_with fail
         (try simp only [Exit.inBlock,Exit.then])
         first
          |refine bodyPost_ret (results_none rfl _ _ _) rfl ?_
          |refine bodyPost_end (results_none rfl _ _ _) rfl ?_
         exact OpPostR.mkN HD.out HE3.out.1 HE3.out.2
        ·obtain ⟨rfl,nv1,hrd,hk⟩:=hpost.some_ hr
         have HRR:=Lib.hid hr
         have hgx:=hgood.2.2 x rfl
         simp only at hgx
         have HEX2:=Lib.hid (expect_any g w5 ts b2 false _ _ _ nv1 [41] hrd)
         rw [show str [41]= .string ⟨#[41]⟩ from rfl] at HEX2
         simp only [Bool.not_false,Bool.true_and] at HEX2
         have HK5:=Lib.hid (HK4.out.trans hk)
         have HQ5:=Lib.hid (hk.kept1 HQ4.out.1 hgtg HQ4.out.2)
         have hfw:=hrd.few
         clear hpost hr hrd hk hgood
         obtain ⟨u2,hu2⟩:∃u,isS ts b2 [41]=u:=⟨_,rfl⟩
         rw [hu2] at HEX2
         cases u2
         ·have HD:Hid (R=(none,b2)):=Lib.hid (by rw [HP3.out,grpR_bad HU1.out HRR.out hu2])
          simp only [Bool.false_eq_true,if_false,Bool.not_false] at HEX2
          clear hu2 HP3
          go_wp2_with fail
          refine HEX2.out.mono ?_
          rintro e w6 ⟨rfl,hk6,hr6⟩
          have HE3:=Lib.hid (And.intro (HK5.out.trans hk6) hr6)
          obtain ⟨⟨k0,k1,k2,k3,k4⟩,_,hg6⟩:=hr6.blk.five'
          clear hk6 hr6
          go_wp2_with fail
          (try simp only [Exit.inBlock,Exit.then])
          first
           |refine bodyPost_ret (results_none rfl _ _ _) rfl ?_
           |refine bodyPost_end (results_none rfl _ _ _) rfl ?_
          exact OpPostR.mkN HD.out HE3.out.1 HE3.out.2
         ·have HD:Hid (R=(some (.un fk 0 x),b2+1)):=Lib.hid (by rw [HP3.out,grpR_ok HU1.out HRR.out hu2])
          simp only [if_true,Bool.not_true] at HEX2
          clear hu2 HP3
          go_wp2_with fail
          refine HEX2.out.mono ?_
          rintro e w6 ⟨rfl,hk6,hr6⟩
          have HK6:=Lib.hid (HK5.out.trans hk6)
          have HQ6:=Lib.hid (hk6.kept1 HQ5.out.1 hgtg HQ5.out.2)
          have HR6:=Lib.hid hr6
          obtain ⟨⟨k0,k1,k2,k3,k4⟩,_,hg6⟩:=hr6.blk.five'
          obtain ⟨j0,j1,j2,_⟩:=HQ6.out.1.three'
          clear hk6 hr6
          go_wp2_with fail
          refine (HFN.out _).mono ?_
          rintro e w7 ⟨rfl,hx7⟩
          have HK7:=Lib.hid (HK6.out.trans (KR.of_ext hx7))
          have HPU:=Lib.hid (put_any g w7 ts (b2+1) false _ _ _ nv1 (fk:Int) 0 0 [] (HR6.out.keep hx7) (by omega))
          rw [show str []= .string ⟨#[]⟩ from rfl] at HPU
          clear hx7
          go_wp2_with fail
          refine HPU.out.mono ?_
          rintro e w8 ⟨nv2,rfl,hk8,hr8⟩
          have hop:operI (fk:Int)=1:=by unfold operI;have:=HFR.out;rw [if_neg (by omega),if_neg (by omega),if_neg (by omega)]
          have hpn:putN (fk:Int) 0 0 (ns++flat ns.length x).length []=⟨(fk:Int),(((ns++flat ns.length x).length:Nat):Int)-1,0,0,[]⟩:=by unfold putN;rw [if_pos hop]
          rw [hpn] at hr8
          have hxp:=x.size_pos
          have h10:(fk == 10)=false:=by
           rw [beq_eq_false_iff_ne]
           have:=HFR.out
           omega
          have hbg:(lg || x.big)=(lg || (Ex.un fk 0 x).big):=by rw [Ex.big,h10,Bool.false_and,Bool.false_or]
          have HF:Hid (RdR g w8 ts (b2+1) false (ns++flat ns.length (.un fk 0 x)) (lg || (Ex.un fk 0 x).big) _ nv2):=Lib.hid (hr8.as hbg (by
           rw [flat_un_snoc,←List.append_assoc,nds_len,show ((ns.length+x.size-1:Nat):Int)=((ns.length+x.size:Nat):Int)-1 by omega]))
          have HK8:=Lib.hid (HK7.out.trans hk8)
          clear hk8 hr8 hop hpn h10 hbg
          go_wp2_with fail
          (try simp only [Exit.inBlock,Exit.then])
          first
           |refine bodyPost_ret (results_none rfl _ _ _) rfl ?_
           |refine bodyPost_end (results_none rfl _ _ _) rfl ?_
          exact OpPostR.mkS HD.out HK8.out HF.out
 ·have HI:Hid (pAtom (pSum ts f) ts a=(none,a)):=Lib.hid (by
   unfold pAtom
   rw [List.getElem?_eq_none (by rw [←HNT.out];exact hge)])
  have z1:decide (n≤a)=true:=decide_eq_true hge
  have z2:(n:Int)≤(a:Int):=by omega
  clear hcell
  go_enter Tryz.func138,Tryz.ntmps138
  go_wp2_with fail
  go_quiet (fail)
  go_wp2_with fail
  (try simp only [Exit.inBlock,Exit.then])
  refine bodyPost_ret (results_none rfl _ _ _) rfl ?_
  have h3:=(H.out.keep ((Ext.refl w).drewN nq)).fail
  exact OpPostR.mkN HI.out ((KR.of_ext ((Ext.refl w).drewN nq)).trans h3.2) h3.1
end Big
end Go.Proofs.YtaccjdbbkmhanaaGreatDoor
namespace Go.Proofs.YtaccjdbbkmhanaaGreatDoor
namespace Big
open Go.RowKit
theorem big_pow {z:Int} {n:Nat} {x:Ex} (h:z=(n:Int)∨z= -(n:Int)):(Ex.un 10 z x).big=(decide (64<n) || x.big):=by
 rw [Ex.big]
 have:(!(decide (-64≤z∧z≤64)))=decide (64<n):=by
  rw [←decide_not,decide_eq_decide]
  omega
 rw [this]
 rfl
theorem pow_node {z:Int} {len:Nat}:putN 10 0 z len []=⟨10,(len:Int)-1,0,z,[]⟩:=by
 unfold putN
 rw [if_pos (by decide)]
theorem numN_cases {c:Nat} (h:numN c=true):(48≤c∧c≤57)∨c=46:=by
 unfold numN digN at h
 simp only [Bool.or_eq_true,Bool.and_eq_true,decide_eq_true_eq,beq_iff_eq] at h
 exact h
set_option maxHeartbeats 8000000 in
set_option maxRecDepth 100000 in
theorem rpower_any (g:Nat) (ts:List Tok) (tv:Value) (f a:Nat) (hfi:∀t∈ts,TokFine t) (hs:∀a',a<a'→SumR g ts tv f a') (w:World) (ns:List Nd) (lg:Bool) (nv:Value) (h:RdR g w ts a false ns lg tv nv):
  Calls Tryz.prog 112 #[.pointer (some ⟨g,0,none⟩)] w (OpPostR g ts tv ns nv lg (pPower (pSum ts f) ts a) w):=by
 have HAT:=Lib.hid (ratom_any g ts tv f a hfi hs w ns lg nv h)
 have hga:=pAtom_good (pSum_good ts f) a h.le
 have hmax:=h.max
 have HFI:=Lib.hid hfi
 clear h hs hfi
 have HI94:=Lib.hid (fun W a bad ns lg nv h=>is_any g W ts a bad ns lg tv nv [94] h)
 have HI45:=Lib.hid (fun W a bad ns lg nv h=>is_any g W ts a bad ns lg tv nv [45] h)
 rw [show str [94]= .string ⟨#[94]⟩ from rfl] at HI94
 rw [show str [45]= .string ⟨#[45]⟩ from rfl] at HI45
 go_enter Tryz.func112,Tryz.ntmps112
 go_wp2_with fail
 refine HAT.out.mono ?_
 intro e w1 hpost
 obtain ⟨r,hr⟩:∃r,pAtom (pSum ts f) ts a=r:=⟨_,rfl⟩
 rw [hr] at hga
 obtain ⟨_|x,b⟩:=r
 ·obtain ⟨rfl,nv1,ns1,lg1,hrd,hk⟩:=hpost.none_ hr
  have HD:=Lib.hid (pPower_none hr)
  have HE:=Lib.hid (And.intro hk hrd)
  have HIB:=Lib.hid (HI94.out w1 b true ns1 lg1 nv1 hrd)
  simp only [Bool.not_true,Bool.false_and] at HIB
  clear hpost hr hrd hk hga
  go_wp2_with fail
  refine HIB.out.mono ?_
  rintro e w2 ⟨rfl,hd⟩
  have HE2:=Lib.hid (And.intro (HE.out.1.trans (KR.of_ext hd.ext)) (HE.out.2.keep hd.ext))
  clear hd
  go_wp2_with fail
  (try simp only [Exit.inBlock,Exit.then])
  first
   |refine bodyPost_ret (results_none rfl _ _ _) rfl ?_
   |refine bodyPost_end (results_none rfl _ _ _) rfl ?_
  exact OpPostR.mkN HD.out HE2.out.1 HE2.out.2
 ·obtain ⟨rfl,nv1,hrd,hk⟩:=hpost.some_ hr
  have hgx:=hga.2.2 x rfl
  have hgl:=hga.2.1
  simp only at hgx hgl
  have HR:=Lib.hid hr
  have HE:=Lib.hid (And.intro hk hrd)
  have HIB:=Lib.hid (HI94.out w1 b false _ _ nv1 hrd)
  simp only [Bool.not_false,Bool.true_and] at HIB
  clear hpost hr hrd hk hga
  obtain ⟨u1,hu1⟩:∃u,isS ts b [94]=u:=⟨_,rfl⟩
  rw [hu1] at HIB
  cases u1
  ·have HD:=Lib.hid (pPower_plain HR.out hu1)
   clear hu1
   go_wp2_with fail
   refine HIB.out.mono ?_
   rintro e w2 ⟨rfl,hd⟩
   have HE2:=Lib.hid (And.intro (HE.out.1.trans (KR.of_ext hd.ext)) (HE.out.2.keep hd.ext))
   clear hd
   go_wp2_with fail
   (try simp only [Exit.inBlock,Exit.then])
   first
    |refine bodyPost_ret (results_none rfl _ _ _) rfl ?_
    |refine bodyPost_end (results_none rfl _ _ _) rfl ?_
   exact OpPostR.mkS HD.out HE2.out.1 HE2.out.2
  ·have hlb:=isS_lt hu1
   have HU1:=Lib.hid hu1
   have hwb:IntKind.i64.wrap ((b:Int)+1)=(b:Int)+1:=IntWalk.i64_in _ (by omega)
   clear hu1
   go_wp2_with fail
   refine HIB.out.mono ?_
   rintro e w2 ⟨rfl,hd⟩
   have hr2:=HE.out.2.keep hd.ext
   have HR2:=Lib.hid hr2
   have HK2:=Lib.hid (HE.out.1.trans (KR.of_ext hd.ext))
   obtain ⟨⟨k0,k1,k2,k3,k4⟩,⟨f1,f2,f3,f4⟩,hg2⟩:=hr2.blk.five'
   clear hd hr2
   go_upto_region 4 with fail
   have hst:=HR2.out.stepR hlb
   obtain ⟨w3,hw3⟩:∃w3,w3=w2.setCell ⟨g,1,none⟩ (.int .i64 ((b:Int)+1)):=⟨_,rfl⟩
   rw [←hw3] at hst ⊢
   have HK3:=Lib.hid (HK2.out.trans hst.2)
   have HR3:=Lib.hid hst.1
   have HIM:=Lib.hid (HI45.out w3 (b+1) false _ _ nv1 hst.1)
   simp only [Bool.not_false,Bool.true_and] at HIM
   clear hst hw3 k0 k1 k2 k3 k4 f1 f2 f3 f4
   obtain ⟨u2,hu2⟩:∃u,isS ts (b+1) [45]=u:=⟨_,rfl⟩
   rw [hu2] at HIM
   cases u2
   ·have HU2:=Lib.hid hu2
    clear hu2
    go_wp2_with fail
    refine HIM.out.mono ?_
    rintro e w5 ⟨rfl,hd⟩
    have HR5:=Lib.hid (HR3.out.keep hd.ext)
    have HK5:=Lib.hid (HK3.out.trans (KR.of_ext hd.ext))
    clear hd
    obtain ⟨c1,hc1⟩:∃c1,c1=b+1:=⟨_,rfl⟩
    rw [←hc1] at HR5
    have HC1:=Lib.hid hc1
    have HBAD:Hid (expo ts c1=none→pPower (pSum ts f) ts a=(none,c1)):=Lib.hid (fun h=>by rw [hc1] at h ⊢;exact pPower_posbad HR.out HU1.out HU2.out h)
    obtain ⟨A,c0,rfl,hcell⟩:=HR5.out.tok
    have hle5:=HR5.out.le
    have hfw5:=HR5.out.few
    obtain ⟨⟨k0,k1,k2,k3,k4⟩,⟨f1,f2,f3,f4⟩,hg5⟩:=HR5.out.blk.five'
    obtain ⟨n,hnt⟩:∃n,n=ts.length:=⟨_,rfl⟩
    rw [←hnt] at k0 hle5 hmax
    have HNT:=Lib.hid hnt
    have hcells:=hcell
    clear hnt hc1 hcell
    generalize hlx:(lg || x.big)=lgx at *
    have HLX:=Lib.hid hlx
    clear hlx
    rcases Nat.lt_or_ge c1 n with hlt|hge
    ·have hlt2:c1<ts.length:=by rw [←HNT.out];exact hlt
     obtain ⟨bt,hbt,hbg,hbw,hc⟩:=hcells (by omega)
     subst hbt
     obtain ⟨q0,q1,q2⟩:=hc c1 hlt2
     have hI:expo ts c1=if ts[c1].kind=1 then digits2 ts[c1].text else none:=by
      unfold expo
      rw [List.getElem?_eq_getElem hlt2]
     have hfine:ts[c1].kind=1→runLen numN ts[c1].text=ts[c1].text.length:=fun h1=>by
      rcases HFI.out ts[c1] (List.getElem_mem hlt2) with ⟨_,_,h,_⟩|⟨h,_⟩|⟨h,_⟩
      ·exact h
      ·omega
      ·omega
     have HFN:=Lib.hid hfine
     clear hc hfine hcells
     generalize ts[c1].kind=tk at *
     generalize ts[c1].text=tx at *
     have z1:decide (n≤c1)=false:=decide_eq_false (by omega)
     by_cases hk:tk=1
     ·subst hk
      rw [if_pos rfl] at hI
      by_cases hl2:tx.length≤2
      ·have z2:decide (2<tx.length)=false:=decide_eq_false (by omega)
       have z3:¬(2:Int)<(tx.length:Int):=by omega
       have hrun:=HFN.out rfl
       have HRUN:=Lib.hid hrun
       obtain ⟨cf,hcf⟩:∃cf:World→Nat,∀W:World,(convert 9 127 (str tx)).run Tryz.prog W= .ok (.slice (some ⟨W.heap.size,0,none⟩) tx.length (cf W)) (bytesAt W tx):=
        ⟨fun W=>Classical.choose (run_bytesAt W tx),fun W=>(Classical.choose_spec (run_bytesAt W tx)).1⟩
       clear hrun
       go_wp2_with fail
       go_quiet (fail)
       obtain ⟨w6,hw6⟩:∃w6,w6=w5.drewN nq:=⟨_,rfl⟩
       rw [←hw6]
       have hd:Dr w5 w6:=by rw [hw6];exact (Dr.refl w5).drewN _
       rw [←hd.cell] at k0 k1 k2 k3 k4 q0 q1 q2
       have HX6:=Lib.hid ((hd.ext.trans (Ext.refl w6).drew).trans (bytesAt_ext w6.drew tx))
       have HI:=Lib.hid hI
       have HCL:Hid (∀j,j<tx.length→(bytesAt w6.drew tx).cell? ⟨w6.heap.size,j,none⟩=some (.int .u8 (byteAt tx j:Int))):=Lib.hid (fun j hj=>bytesAt_cell w6.drew tx j hj)
       clear hw6 hd hI
       go_upto_region 10 with fail
       go_region
       clear hcf k0 k1 k2 k3 k4 f1 f2 f3 f4 q0 q1 q2 z1 z2 z3
       generalize bytesAt w6.drew tx=wb at *
       generalize w6.heap.size=gb at *
       generalize cf w6.drew=cb at *
       have hrb:=HR5.out.keep HX6.out
       have HRB:=Lib.hid hrb
       have HKB:=Lib.hid (HK5.out.trans (KR.of_ext HX6.out))
       obtain ⟨⟨k0,k1,k2,k3,k4⟩,⟨f1,f2,f3,f4⟩,hgb⟩:=hrb.blk.five'
       clear hrb
       go_wp2_with fail
       go_loop [3,82] (fun s3 s82=>∃i:Nat,i≤tx.length∧s3= .int .i64 (dval (tx.take i):Int)∧s82= .int .i64 (i:Int)∧Hid ((tx.take i).all (fun c=>digN c.toNat)=true)) (fun _ s82=>tx.length-(intOf s82).toNat)
       case atStart=>exact ⟨0,Nat.zero_le _,rfl,rfl,Lib.hid rfl⟩
       case round=>
        obtain ⟨i,hi,rfl,rfl,HALL⟩:=hrel
        by_cases hit:i<tx.length
        ·have hst:=HCL.out i hit
         have hdl:=dval_le i HALL.out hl2
         have HST:=Lib.hid (dval_step tx i hit)
         have hbe:=byteAt_eq tx i hit
         have HTK:=Lib.hid (List.take_succ_eq_append_getElem hit)
         have hc256:=byteAt_lt tx i
         have hnum:=(runLen_in numN tx i (by rw [HRUN.out];exact hit)).2
         rw [←hbe] at hnum
         have hcc:=numN_cases hnum
         have HBE:=Lib.hid hbe
         obtain ⟨c,hc⟩:∃c,c=byteAt tx i:=⟨_,rfl⟩
         rw [←hc] at hst hc256 hcc
         have HCC:=Lib.hid hc
         clear hbe hc hnum
         generalize hdv:dval (tx.take i)=dv at *
         have HDV:=Lib.hid hdv
         clear hdv
         rcases hcc with hdg|rfl
         ·have y1:((c:Int) == 46)=false:=by rw [beq_eq_false_iff_ne];omega
          have y2:(c == 46)=false:=by rw [beq_eq_false_iff_ne];omega
          have hwa:IntKind.i64.wrap (10*(dv:Int))=((10*dv:Nat):Int):=by rw [IntWalk.i64_in _ (by omega)];omega
          have hwc:IntKind.u8.wrap ((c:Int)-48)=((c-48:Nat):Int):=by
           have:IntKind.u8.wrap ((c:Int)-48)=((c:Int)-48) % 256:=rfl
           rw [this]
           omega
          have hwd:IntKind.i64.wrap (((c-48:Nat):Int))=((c-48:Nat):Int):=IntWalk.i64_in _ (by omega)
          obtain ⟨p1,hp1⟩:∃p1,p1=10*dv:=⟨_,rfl⟩
          obtain ⟨p2,hp2⟩:∃p2,p2=c-48:=⟨_,rfl⟩
          rw [←hp1] at hwa
          rw [←hp2] at hwc hwd
          have hwe:IntKind.i64.wrap ((p1:Int)+(p2:Int))=((p1+p2:Nat):Int):=by rw [IntWalk.i64_in _ (by omega)];omega
          obtain ⟨p3,hp3⟩:∃p3,p3=p1+p2:=⟨_,rfl⟩
          rw [←hp3] at hwe
          have HV:Hid (dval (tx.take (i+1))=p3):=Lib.hid (by rw [HST.out,←HBE.out,←HCC.out,hp3,hp1,hp2])
          have HA2:Hid ((tx.take (i+1)).all (fun c=>digN c.toNat)=true):=Lib.hid (by
           rw [HTK.out,List.all_append,HALL.out,List.all_cons,List.all_nil,←HBE.out,←HCC.out]
           unfold digN
           simp [hdg.1,hdg.2])
          clear hp1 hp2 hp3 hdg
          go_wp2_with fail
          go_round
          case rel=>exact ⟨i+1,by omega,by rw [HV.out],by go_num,HA2⟩
          case measure=>simp [intOf];omega
         ·have HN0:Hid (pPower (pSum ts f) ts a=(none,c1)):=Lib.hid (HBAD.out (by
           rw [HI.out]
           unfold digits2
           rw [if_neg]
           intro hh
           have h2:=List.all_eq_true.1 hh.2 tx[i] (List.getElem_mem hit)
           rw [←HBE.out,←HCC.out] at h2
           revert h2
           decide))
          go_wp2_with fail
          (try simp only [Exit.inBlock,Exit.then])
          first
           |refine bodyPost_ret (results_none rfl _ _ _) rfl ?_
           |refine bodyPost_end (results_none rfl _ _ _) rfl ?_
          have h3:=HRB.out.fail
          exact OpPostR.mkN HN0.out (HKB.out.trans h3.2) h3.1
        ·obtain rfl:i=tx.length:=by omega
         have hal:=HALL.out
         rw [List.take_of_length_le (Nat.le_refl _)] at hal
         rw [List.take_of_length_le (Nat.le_refl _)]
         have hexp:expo ts c1=some (dval tx):=by
          rw [HI.out]
          unfold digits2 dval
          rw [if_pos ⟨hl2,hal⟩]
         have hn99:=expo_le hexp
         obtain ⟨z,hz⟩:∃z:Int,z=(dval tx:Int):=⟨_,rfl⟩
         have HGD:Hid (pPower (pSum ts f) ts a=(some (.un 10 z x),c1+1)):=Lib.hid (by
          rw [hz,HC1.out]
          rw [HC1.out] at hexp
          exact pPower_pos HR.out HU1.out HU2.out hexp)
         have HZZ:Hid (z=(dval tx:Int)∨z= -(dval tx:Int)):=Lib.hid (by omega)
         generalize dval tx=dv at *
         have hwz:IntKind.i64.wrap ((dv:Int))=z:=by rw [IntWalk.i64_in _ (by omega),hz]
         have hw1:IntKind.i64.wrap ((c1:Int)+1)=(c1:Int)+1:=IntWalk.i64_in _ (by omega)
         clear hal hz hexp
         go_upto_region 18 with fail
         have hst:=HRB.out.stepR hlt2
         obtain ⟨w7,hw7⟩:∃w7,w7=wb.setCell ⟨g,1,none⟩ (.int .i64 ((c1:Int)+1)):=⟨_,rfl⟩
         rw [←hw7] at hst ⊢
         have HK7:=Lib.hid (HKB.out.trans hst.2)
         have HR7:=Lib.hid hst.1
         obtain ⟨⟨k0,k1,k2,k3,k4⟩,⟨f1,f2,f3,f4⟩,hg7⟩:=hst.1.blk.five'
         clear hst hw7
         have HL2:Hid (∀q,q=(lgx || decide (64<dv))→q=(lg || (Ex.un 10 z x).big)):=Lib.hid (fun q hq=>by
          rw [hq,big_pow HZZ.out,←HLX.out]
          cases lg<;>cases x.big<;>simp)
         have fin:∀q:Bool,q=(lgx || decide (64<dv))→Hid (∃w8,w8=w7.setCell ⟨g,4,none⟩ (.bool q)∧RdR g w8 ts (c1+1) false (ns++flat ns.length x) q _ nv1∧KR g nv nv1 w w8):=fun q _=>Lib.hid (by
          have h:=HR7.out.large q
          exact ⟨_,rfl,h.1,HK7.out.trans h.2⟩)
         have hfw8:(ns++flat ns.length x).length+1≤c1+1:=by omega
         cases lgx
         ·by_cases hq:64<dv
          ·have hqd:decide (64<dv)=true:=decide_eq_true hq
           have hqi:(64:Int)<(dv:Int):=by omega
           have hqe:true=(false || decide (64<dv)):=by rw [hqd];rfl
           obtain ⟨w8,hw8,hr8,hk8⟩:=(fin true hqe).out
           have HQ:=Lib.hid (HL2.out true hqe)
           clear hqe
           go_upto_region 19 with fail
           rw [←hw8]
           have HPU:=Lib.hid (put_any g w8 ts (c1+1) false _ true _ nv1 10 0 z [] hr8 hfw8)
           rw [show str []= .string ⟨#[]⟩ from rfl,pow_node] at HPU
           have HK8:=Lib.hid hk8
           clear hw8 hr8 hk8 fin k0 k1 k2 k3 k4 f1 f2 f3 f4
           go_wp2_with fail
           refine HPU.out.mono ?_
           rintro e w9 ⟨nv2,rfl,hk9,hr9⟩
           have hxp:=x.size_pos
           have HF:Hid (RdR g w9 ts (c1+1) false (ns++flat ns.length (.un 10 z x)) (lg || (Ex.un 10 z x).big) _ nv2):=Lib.hid (hr9.as HQ.out (by
            rw [flat_un_snoc,←List.append_assoc,nds_len,show ((ns.length+x.size-1:Nat):Int)=((ns.length+x.size:Nat):Int)-1 by omega]
            rfl))
           have HK9:=Lib.hid (HK8.out.trans hk9)
           clear hk9 hr9
           go_wp2_with fail
           (try simp only [Exit.inBlock,Exit.then])
           first
            |refine bodyPost_ret (results_none rfl _ _ _) rfl ?_
            |refine bodyPost_end (results_none rfl _ _ _) rfl ?_
           exact OpPostR.mkS HGD.out HK9.out HF.out
          ·have hqd:decide (64<dv)=false:=decide_eq_false hq
           have hqi:¬(64:Int)<(dv:Int):=by omega
           have hqe:false=(false || decide (64<dv)):=by rw [hqd];rfl
           obtain ⟨w8,hw8,hr8,hk8⟩:=(fin false hqe).out
           have HQ:=Lib.hid (HL2.out false hqe)
           clear hqe
           go_upto_region 19 with fail
           rw [←hw8]
           have HPU:=Lib.hid (put_any g w8 ts (c1+1) false _ false _ nv1 10 0 z [] hr8 hfw8)
           rw [show str []= .string ⟨#[]⟩ from rfl,pow_node] at HPU
           have HK8:=Lib.hid hk8
           clear hw8 hr8 hk8 fin k0 k1 k2 k3 k4 f1 f2 f3 f4
           go_wp2_with fail
           refine HPU.out.mono ?_
           rintro e w9 ⟨nv2,rfl,hk9,hr9⟩
           have hxp:=x.size_pos
           have HF:Hid (RdR g w9 ts (c1+1) false (ns++flat ns.length (.un 10 z x)) (lg || (Ex.un 10 z x).big) _ nv2):=Lib.hid (hr9.as HQ.out (by
            rw [flat_un_snoc,←List.append_assoc,nds_len,show ((ns.length+x.size-1:Nat):Int)=((ns.length+x.size:Nat):Int)-1 by omega]
            rfl))
           have HK9:=Lib.hid (HK8.out.trans hk9)
           clear hk9 hr9
           go_wp2_with fail
           (try simp only [Exit.inBlock,Exit.then])
           first
            |refine bodyPost_ret (results_none rfl _ _ _) rfl ?_
            |refine bodyPost_end (results_none rfl _ _ _) rfl ?_
           exact OpPostR.mkS HGD.out HK9.out HF.out
         ·have hqe:true=(true || decide (64<dv)):=rfl
          obtain ⟨w8,hw8,hr8,hk8⟩:=(fin true hqe).out
          have HQ:=Lib.hid (HL2.out true hqe)
          clear hqe
          go_upto_region 19 with fail
          rw [←hw8]
          have HPU:=Lib.hid (put_any g w8 ts (c1+1) false _ true _ nv1 10 0 z [] hr8 hfw8)
          rw [show str []= .string ⟨#[]⟩ from rfl,pow_node] at HPU
          have HK8:=Lib.hid hk8
          clear hw8 hr8 hk8 fin k0 k1 k2 k3 k4 f1 f2 f3 f4
          go_wp2_with fail
          refine HPU.out.mono ?_
          rintro e w9 ⟨nv2,rfl,hk9,hr9⟩
          have hxp:=x.size_pos
          have HF:Hid (RdR g w9 ts (c1+1) false (ns++flat ns.length (.un 10 z x)) (lg || (Ex.un 10 z x).big) _ nv2):=Lib.hid (hr9.as HQ.out (by
           rw [flat_un_snoc,←List.append_assoc,nds_len,show ((ns.length+x.size-1:Nat):Int)=((ns.length+x.size:Nat):Int)-1 by omega]
           rfl))
          have HK9:=Lib.hid (HK8.out.trans hk9)
          clear hk9 hr9
          go_wp2_with fail
          (try simp only [Exit.inBlock,Exit.then])
          first
           |refine bodyPost_ret (results_none rfl _ _ _) rfl ?_
           |refine bodyPost_end (results_none rfl _ _ _) rfl ?_
          exact OpPostR.mkS HGD.out HK9.out HF.out
      ·have HN0:Hid (pPower (pSum ts f) ts a=(none,c1)):=Lib.hid (HBAD.out (by rw [hI];unfold digits2;rw [if_neg (fun h=>hl2 h.1)]))
       have z2:decide (2<tx.length)=true:=decide_eq_true (by omega)
       have z3:(2:Int)<(tx.length:Int):=by omega
       clear hI hl2
       go_wp2_with fail
       go_quiet (fail)
       go_wp2_with fail
       (try simp only [Exit.inBlock,Exit.then])
       first
        |refine bodyPost_ret (results_none rfl _ _ _) rfl ?_
        |refine bodyPost_end (results_none rfl _ _ _) rfl ?_
       have h3:=(HR5.out.keep ((Ext.refl w5).drewN nq)).fail
       exact OpPostR.mkN HN0.out (HK5.out.trans ((KR.of_ext ((Ext.refl w5).drewN nq)).trans h3.2)) h3.1
     ·have hk2:((tk:Int) != 1)=true:=by rw [bne_iff_ne];omega
      have HN0:Hid (pPower (pSum ts f) ts a=(none,c1)):=Lib.hid (HBAD.out (by rw [hI,if_neg hk]))
      clear hI hk
      go_wp2_with fail
      go_quiet (fail)
      go_wp2_with fail
      (try simp only [Exit.inBlock,Exit.then])
      first
       |refine bodyPost_ret (results_none rfl _ _ _) rfl ?_
       |refine bodyPost_end (results_none rfl _ _ _) rfl ?_
      have h3:=(HR5.out.keep ((Ext.refl w5).drewN nq)).fail
      exact OpPostR.mkN HN0.out (HK5.out.trans ((KR.of_ext ((Ext.refl w5).drewN nq)).trans h3.2)) h3.1
    ·have HN0:Hid (pPower (pSum ts f) ts a=(none,c1)):=Lib.hid (HBAD.out (by
      unfold expo
      rw [List.getElem?_eq_none (by rw [←HNT.out];exact hge)]))
     have z1:decide (n≤c1)=true:=decide_eq_true hge
     have z2:(n:Int)≤(c1:Int):=by omega
     clear hcells
     go_wp2_with fail
     go_quiet (fail)
     go_wp2_with fail
     (try simp only [Exit.inBlock,Exit.then])
     first
      |refine bodyPost_ret (results_none rfl _ _ _) rfl ?_
      |refine bodyPost_end (results_none rfl _ _ _) rfl ?_
     have h3:=(HR5.out.keep ((Ext.refl w5).drewN nq)).fail
     exact OpPostR.mkN HN0.out (HK5.out.trans ((KR.of_ext ((Ext.refl w5).drewN nq)).trans h3.2)) h3.1
   ·have hlb2:=isS_lt hu2
    have HU2:=Lib.hid hu2
    have hwb2:IntKind.i64.wrap (((b+1:Nat):Int)+1)=((b+1:Nat):Int)+1:=IntWalk.i64_in _ (by omega)
    clear hu2
    go_wp2_with fail
    refine HIM.out.mono ?_
    rintro e w4 ⟨rfl,hd⟩
    have hr4:=HR3.out.keep hd.ext
    have HR4:=Lib.hid hr4
    have HK4:=Lib.hid (HK3.out.trans (KR.of_ext hd.ext))
    obtain ⟨⟨k0,k1,k2,k3,k4⟩,⟨f1,f2,f3,f4⟩,hg4⟩:=hr4.blk.five'
    clear hd hr4 hwb
    obtain ⟨b1,hb1⟩:∃b1,b1=b+1:=⟨_,rfl⟩
    rw [←hb1] at k1 hwb2 hlb2
    have HB1:=Lib.hid hb1
    clear hb1
    go_upto_region 7 with fail
    have hst:=HR4.out.stepR (by rw [←HB1.out];exact hlb2)
    rw [←HB1.out] at hst
    obtain ⟨w5,hw5⟩:∃w5,w5=w4.setCell ⟨g,1,none⟩ (.int .i64 ((b1:Int)+1)):=⟨_,rfl⟩
    rw [←hw5] at hst ⊢
    rw [HB1.out] at hst
    have HR5:=Lib.hid hst.1
    have HK5:=Lib.hid (HK4.out.trans hst.2)
    clear hst hw5 hlb2 hwb2 k0 k1 k2 k3 k4 f1 f2 f3 f4
    obtain ⟨c1,hc1⟩:∃c1,c1=b+1+1:=⟨_,rfl⟩
    rw [←hc1] at HR5
    have HC1:=Lib.hid hc1
    have HBAD:Hid (expo ts c1=none→pPower (pSum ts f) ts a=(none,c1)):=Lib.hid (fun h=>by rw [hc1] at h ⊢;exact pPower_negbad HR.out HU1.out HU2.out h)
    obtain ⟨A,c0,rfl,hcell⟩:=HR5.out.tok
    have hle5:=HR5.out.le
    have hfw5:=HR5.out.few
    obtain ⟨⟨k0,k1,k2,k3,k4⟩,⟨f1,f2,f3,f4⟩,hg5⟩:=HR5.out.blk.five'
    obtain ⟨n,hnt⟩:∃n,n=ts.length:=⟨_,rfl⟩
    rw [←hnt] at k0 hle5 hmax
    have HNT:=Lib.hid hnt
    have hcells:=hcell
    clear hnt hc1 hcell
    generalize hlx:(lg || x.big)=lgx at *
    have HLX:=Lib.hid hlx
    clear hlx
    rcases Nat.lt_or_ge c1 n with hlt|hge
    ·have hlt2:c1<ts.length:=by rw [←HNT.out];exact hlt
     obtain ⟨bt,hbt,hbg,hbw,hc⟩:=hcells (by omega)
     subst hbt
     obtain ⟨q0,q1,q2⟩:=hc c1 hlt2
     have hI:expo ts c1=if ts[c1].kind=1 then digits2 ts[c1].text else none:=by
      unfold expo
      rw [List.getElem?_eq_getElem hlt2]
     have hfine:ts[c1].kind=1→runLen numN ts[c1].text=ts[c1].text.length:=fun h1=>by
      rcases HFI.out ts[c1] (List.getElem_mem hlt2) with ⟨_,_,h,_⟩|⟨h,_⟩|⟨h,_⟩
      ·exact h
      ·omega
      ·omega
     have HFN:=Lib.hid hfine
     clear hc hfine hcells
     generalize ts[c1].kind=tk at *
     generalize ts[c1].text=tx at *
     have z1:decide (n≤c1)=false:=decide_eq_false (by omega)
     by_cases hk:tk=1
     ·subst hk
      rw [if_pos rfl] at hI
      by_cases hl2:tx.length≤2
      ·have z2:decide (2<tx.length)=false:=decide_eq_false (by omega)
       have z3:¬(2:Int)<(tx.length:Int):=by omega
       have hrun:=HFN.out rfl
       have HRUN:=Lib.hid hrun
       obtain ⟨cf,hcf⟩:∃cf:World→Nat,∀W:World,(convert 9 127 (str tx)).run Tryz.prog W= .ok (.slice (some ⟨W.heap.size,0,none⟩) tx.length (cf W)) (bytesAt W tx):=
        ⟨fun W=>Classical.choose (run_bytesAt W tx),fun W=>(Classical.choose_spec (run_bytesAt W tx)).1⟩
       clear hrun
       go_wp2_with fail
       go_quiet (fail)
       obtain ⟨w6,hw6⟩:∃w6,w6=w5.drewN nq:=⟨_,rfl⟩
       rw [←hw6]
       have hd:Dr w5 w6:=by rw [hw6];exact (Dr.refl w5).drewN _
       rw [←hd.cell] at k0 k1 k2 k3 k4 q0 q1 q2
       have HX6:=Lib.hid ((hd.ext.trans (Ext.refl w6).drew).trans (bytesAt_ext w6.drew tx))
       have HI:=Lib.hid hI
       have HCL:Hid (∀j,j<tx.length→(bytesAt w6.drew tx).cell? ⟨w6.heap.size,j,none⟩=some (.int .u8 (byteAt tx j:Int))):=Lib.hid (fun j hj=>bytesAt_cell w6.drew tx j hj)
       clear hw6 hd hI
       go_upto_region 10 with fail
       go_region
       clear hcf k0 k1 k2 k3 k4 f1 f2 f3 f4 q0 q1 q2 z1 z2 z3
       generalize bytesAt w6.drew tx=wb at *
       generalize w6.heap.size=gb at *
       generalize cf w6.drew=cb at *
       have hrb:=HR5.out.keep HX6.out
       have HRB:=Lib.hid hrb
       have HKB:=Lib.hid (HK5.out.trans (KR.of_ext HX6.out))
       obtain ⟨⟨k0,k1,k2,k3,k4⟩,⟨f1,f2,f3,f4⟩,hgb⟩:=hrb.blk.five'
       clear hrb
       go_wp2_with fail
       go_loop [3,82] (fun s3 s82=>∃i:Nat,i≤tx.length∧s3= .int .i64 (dval (tx.take i):Int)∧s82= .int .i64 (i:Int)∧Hid ((tx.take i).all (fun c=>digN c.toNat)=true)) (fun _ s82=>tx.length-(intOf s82).toNat)
       case atStart=>exact ⟨0,Nat.zero_le _,rfl,rfl,Lib.hid rfl⟩
       case round=>
        obtain ⟨i,hi,rfl,rfl,HALL⟩:=hrel
        by_cases hit:i<tx.length
        ·have hst:=HCL.out i hit
         have hdl:=dval_le i HALL.out hl2
         have HST:=Lib.hid (dval_step tx i hit)
         have hbe:=byteAt_eq tx i hit
         have HTK:=Lib.hid (List.take_succ_eq_append_getElem hit)
         have hc256:=byteAt_lt tx i
         have hnum:=(runLen_in numN tx i (by rw [HRUN.out];exact hit)).2
         rw [←hbe] at hnum
         have hcc:=numN_cases hnum
         have HBE:=Lib.hid hbe
         obtain ⟨c,hc⟩:∃c,c=byteAt tx i:=⟨_,rfl⟩
         rw [←hc] at hst hc256 hcc
         have HCC:=Lib.hid hc
         clear hbe hc hnum
         generalize hdv:dval (tx.take i)=dv at *
         have HDV:=Lib.hid hdv
         clear hdv
         rcases hcc with hdg|rfl
         ·have y1:((c:Int) == 46)=false:=by rw [beq_eq_false_iff_ne];omega
          have y2:(c == 46)=false:=by rw [beq_eq_false_iff_ne];omega
          have hwa:IntKind.i64.wrap (10*(dv:Int))=((10*dv:Nat):Int):=by rw [IntWalk.i64_in _ (by omega)];omega
          have hwc:IntKind.u8.wrap ((c:Int)-48)=((c-48:Nat):Int):=by
           have:IntKind.u8.wrap ((c:Int)-48)=((c:Int)-48) % 256:=rfl
           rw [this]
           omega
          have hwd:IntKind.i64.wrap (((c-48:Nat):Int))=((c-48:Nat):Int):=IntWalk.i64_in _ (by omega)
          obtain ⟨p1,hp1⟩:∃p1,p1=10*dv:=⟨_,rfl⟩
          obtain ⟨p2,hp2⟩:∃p2,p2=c-48:=⟨_,rfl⟩
          rw [←hp1] at hwa
          rw [←hp2] at hwc hwd
          have hwe:IntKind.i64.wrap ((p1:Int)+(p2:Int))=((p1+p2:Nat):Int):=by rw [IntWalk.i64_in _ (by omega)];omega
          obtain ⟨p3,hp3⟩:∃p3,p3=p1+p2:=⟨_,rfl⟩
          rw [←hp3] at hwe
          have HV:Hid (dval (tx.take (i+1))=p3):=Lib.hid (by rw [HST.out,←HBE.out,←HCC.out,hp3,hp1,hp2])
          have HA2:Hid ((tx.take (i+1)).all (fun c=>digN c.toNat)=true):=Lib.hid (by
           rw [HTK.out,List.all_append,HALL.out,List.all_cons,List.all_nil,←HBE.out,←HCC.out]
           unfold digN
           simp [hdg.1,hdg.2])
          clear hp1 hp2 hp3 hdg
          go_wp2_with fail
          go_round
          case rel=>exact ⟨i+1,by omega,by rw [HV.out],by go_num,HA2⟩
          case measure=>simp [intOf];omega
         ·have HN0:Hid (pPower (pSum ts f) ts a=(none,c1)):=Lib.hid (HBAD.out (by
           rw [HI.out]
           unfold digits2
           rw [if_neg]
           intro hh
           have h2:=List.all_eq_true.1 hh.2 tx[i] (List.getElem_mem hit)
           rw [←HBE.out,←HCC.out] at h2
           revert h2
           decide))
          go_wp2_with fail
          (try simp only [Exit.inBlock,Exit.then])
          first
           |refine bodyPost_ret (results_none rfl _ _ _) rfl ?_
           |refine bodyPost_end (results_none rfl _ _ _) rfl ?_
          have h3:=HRB.out.fail
          exact OpPostR.mkN HN0.out (HKB.out.trans h3.2) h3.1
        ·obtain rfl:i=tx.length:=by omega
         have hal:=HALL.out
         rw [List.take_of_length_le (Nat.le_refl _)] at hal
         rw [List.take_of_length_le (Nat.le_refl _)]
         have hexp:expo ts c1=some (dval tx):=by
          rw [HI.out]
          unfold digits2 dval
          rw [if_pos ⟨hl2,hal⟩]
         have hn99:=expo_le hexp
         obtain ⟨z,hz⟩:∃z:Int,z= -(dval tx:Int):=⟨_,rfl⟩
         have HGD:Hid (pPower (pSum ts f) ts a=(some (.un 10 z x),c1+1)):=Lib.hid (by
          rw [hz,HC1.out]
          rw [HC1.out] at hexp
          exact pPower_neg HR.out HU1.out HU2.out hexp)
         have HZZ:Hid (z=(dval tx:Int)∨z= -(dval tx:Int)):=Lib.hid (by omega)
         generalize dval tx=dv at *
         have hwz:IntKind.i64.wrap (-(dv:Int))=z:=by rw [IntWalk.i64_in _ (by omega),hz]
         have hw1:IntKind.i64.wrap ((c1:Int)+1)=(c1:Int)+1:=IntWalk.i64_in _ (by omega)
         clear hal hz hexp
         go_upto_region 18 with fail
         have hst:=HRB.out.stepR hlt2
         obtain ⟨w7,hw7⟩:∃w7,w7=wb.setCell ⟨g,1,none⟩ (.int .i64 ((c1:Int)+1)):=⟨_,rfl⟩
         rw [←hw7] at hst ⊢
         have HK7:=Lib.hid (HKB.out.trans hst.2)
         have HR7:=Lib.hid hst.1
         obtain ⟨⟨k0,k1,k2,k3,k4⟩,⟨f1,f2,f3,f4⟩,hg7⟩:=hst.1.blk.five'
         clear hst hw7
         have HL2:Hid (∀q,q=(lgx || decide (64<dv))→q=(lg || (Ex.un 10 z x).big)):=Lib.hid (fun q hq=>by
          rw [hq,big_pow HZZ.out,←HLX.out]
          cases lg<;>cases x.big<;>simp)
         have fin:∀q:Bool,q=(lgx || decide (64<dv))→Hid (∃w8,w8=w7.setCell ⟨g,4,none⟩ (.bool q)∧RdR g w8 ts (c1+1) false (ns++flat ns.length x) q _ nv1∧KR g nv nv1 w w8):=fun q _=>Lib.hid (by
          have h:=HR7.out.large q
          exact ⟨_,rfl,h.1,HK7.out.trans h.2⟩)
         have hfw8:(ns++flat ns.length x).length+1≤c1+1:=by omega
         cases lgx
         ·by_cases hq:64<dv
          ·have hqd:decide (64<dv)=true:=decide_eq_true hq
           have hqi:(64:Int)<(dv:Int):=by omega
           have hqe:true=(false || decide (64<dv)):=by rw [hqd];rfl
           obtain ⟨w8,hw8,hr8,hk8⟩:=(fin true hqe).out
           have HQ:=Lib.hid (HL2.out true hqe)
           clear hqe
           go_upto_region 19 with fail
           rw [←hw8]
           have HPU:=Lib.hid (put_any g w8 ts (c1+1) false _ true _ nv1 10 0 z [] hr8 hfw8)
           rw [show str []= .string ⟨#[]⟩ from rfl,pow_node] at HPU
           have HK8:=Lib.hid hk8
           clear hw8 hr8 hk8 fin k0 k1 k2 k3 k4 f1 f2 f3 f4
           go_wp2_with fail
           refine HPU.out.mono ?_
           rintro e w9 ⟨nv2,rfl,hk9,hr9⟩
           have hxp:=x.size_pos
           have HF:Hid (RdR g w9 ts (c1+1) false (ns++flat ns.length (.un 10 z x)) (lg || (Ex.un 10 z x).big) _ nv2):=Lib.hid (hr9.as HQ.out (by
            rw [flat_un_snoc,←List.append_assoc,nds_len,show ((ns.length+x.size-1:Nat):Int)=((ns.length+x.size:Nat):Int)-1 by omega]
            rfl))
           have HK9:=Lib.hid (HK8.out.trans hk9)
           clear hk9 hr9
           go_wp2_with fail
           (try simp only [Exit.inBlock,Exit.then])
           first
            |refine bodyPost_ret (results_none rfl _ _ _) rfl ?_
            |refine bodyPost_end (results_none rfl _ _ _) rfl ?_
           exact OpPostR.mkS HGD.out HK9.out HF.out
          ·have hqd:decide (64<dv)=false:=decide_eq_false hq
           have hqi:¬(64:Int)<(dv:Int):=by omega
           have hqe:false=(false || decide (64<dv)):=by rw [hqd];rfl
           obtain ⟨w8,hw8,hr8,hk8⟩:=(fin false hqe).out
           have HQ:=Lib.hid (HL2.out false hqe)
           clear hqe
           go_upto_region 19 with fail
           rw [←hw8]
           have HPU:=Lib.hid (put_any g w8 ts (c1+1) false _ false _ nv1 10 0 z [] hr8 hfw8)
           rw [show str []= .string ⟨#[]⟩ from rfl,pow_node] at HPU
           have HK8:=Lib.hid hk8
           clear hw8 hr8 hk8 fin k0 k1 k2 k3 k4 f1 f2 f3 f4
           go_wp2_with fail
           refine HPU.out.mono ?_
           rintro e w9 ⟨nv2,rfl,hk9,hr9⟩
           have hxp:=x.size_pos
           have HF:Hid (RdR g w9 ts (c1+1) false (ns++flat ns.length (.un 10 z x)) (lg || (Ex.un 10 z x).big) _ nv2):=Lib.hid (hr9.as HQ.out (by
            rw [flat_un_snoc,←List.append_assoc,nds_len,show ((ns.length+x.size-1:Nat):Int)=((ns.length+x.size:Nat):Int)-1 by omega]
            rfl))
           have HK9:=Lib.hid (HK8.out.trans hk9)
           clear hk9 hr9
           go_wp2_with fail
           (try simp only [Exit.inBlock,Exit.then])
           first
            |refine bodyPost_ret (results_none rfl _ _ _) rfl ?_
            |refine bodyPost_end (results_none rfl _ _ _) rfl ?_
           exact OpPostR.mkS HGD.out HK9.out HF.out
         ·have hqe:true=(true || decide (64<dv)):=rfl
          obtain ⟨w8,hw8,hr8,hk8⟩:=(fin true hqe).out
          have HQ:=Lib.hid (HL2.out true hqe)
          clear hqe
          go_upto_region 19 with fail
          rw [←hw8]
          have HPU:=Lib.hid (put_any g w8 ts (c1+1) false _ true _ nv1 10 0 z [] hr8 hfw8)
          rw [show str []= .string ⟨#[]⟩ from rfl,pow_node] at HPU
          have HK8:=Lib.hid hk8
          clear hw8 hr8 hk8 fin k0 k1 k2 k3 k4 f1 f2 f3 f4
          go_wp2_with fail
          refine HPU.out.mono ?_
          rintro e w9 ⟨nv2,rfl,hk9,hr9⟩
          have hxp:=x.size_pos
          have HF:Hid (RdR g w9 ts (c1+1) false (ns++flat ns.length (.un 10 z x)) (lg || (Ex.un 10 z x).big) _ nv2):=Lib.hid (hr9.as HQ.out (by
           rw [flat_un_snoc,←List.append_assoc,nds_len,show ((ns.length+x.size-1:Nat):Int)=((ns.length+x.size:Nat):Int)-1 by omega]
           rfl))
          have HK9:=Lib.hid (HK8.out.trans hk9)
          clear hk9 hr9
          go_wp2_with fail
          (try simp only [Exit.inBlock,Exit.then])
          first
           |refine bodyPost_ret (results_none rfl _ _ _) rfl ?_
           |refine bodyPost_end (results_none rfl _ _ _) rfl ?_
          exact OpPostR.mkS HGD.out HK9.out HF.out
      ·have HN0:Hid (pPower (pSum ts f) ts a=(none,c1)):=Lib.hid (HBAD.out (by rw [hI];unfold digits2;rw [if_neg (fun h=>hl2 h.1)]))
       have z2:decide (2<tx.length)=true:=decide_eq_true (by omega)
       have z3:(2:Int)<(tx.length:Int):=by omega
       clear hI hl2
       go_wp2_with fail
       go_quiet (fail)
       go_wp2_with fail
       (try simp only [Exit.inBlock,Exit.then])
       first
        |refine bodyPost_ret (results_none rfl _ _ _) rfl ?_
        |refine bodyPost_end (results_none rfl _ _ _) rfl ?_
       have h3:=(HR5.out.keep ((Ext.refl w5).drewN nq)).fail
       exact OpPostR.mkN HN0.out (HK5.out.trans ((KR.of_ext ((Ext.refl w5).drewN nq)).trans h3.2)) h3.1
     ·have hk2:((tk:Int) != 1)=true:=by rw [bne_iff_ne];omega
      have HN0:Hid (pPower (pSum ts f) ts a=(none,c1)):=Lib.hid (HBAD.out (by rw [hI,if_neg hk]))
      clear hI hk
      go_wp2_with fail
      go_quiet (fail)
      go_wp2_with fail
      (try simp only [Exit.inBlock,Exit.then])
      first
       |refine bodyPost_ret (results_none rfl _ _ _) rfl ?_
       |refine bodyPost_end (results_none rfl _ _ _) rfl ?_
      have h3:=(HR5.out.keep ((Ext.refl w5).drewN nq)).fail
      exact OpPostR.mkN HN0.out (HK5.out.trans ((KR.of_ext ((Ext.refl w5).drewN nq)).trans h3.2)) h3.1
    ·have HN0:Hid (pPower (pSum ts f) ts a=(none,c1)):=Lib.hid (HBAD.out (by
      unfold expo
      rw [List.getElem?_eq_none (by rw [←HNT.out];exact hge)]))
     have z1:decide (n≤c1)=true:=decide_eq_true hge
     have z2:(n:Int)≤(c1:Int):=by omega
     clear hcells
     go_wp2_with fail
     go_quiet (fail)
     go_wp2_with fail
     (try simp only [Exit.inBlock,Exit.then])
     first
      |refine bodyPost_ret (results_none rfl _ _ _) rfl ?_
      |refine bodyPost_end (results_none rfl _ _ _) rfl ?_
     have h3:=(HR5.out.keep ((Ext.refl w5).drewN nq)).fail
     exact OpPostR.mkN HN0.out (HK5.out.trans ((KR.of_ext ((Ext.refl w5).drewN nq)).trans h3.2)) h3.1
end Big
end Go.Proofs.YtaccjdbbkmhanaaGreatDoor
namespace Go.Proofs.YtaccjdbbkmhanaaGreatDoor
namespace Big
open Go.RowKit
section
variable {p:Nat→Option Ex × Nat} {ts:List Tok} {a b:Nat} {x:Ex}
theorem pMinus_noS (h:isS ts a [45]=false):pMinus p ts a=pPower p ts a:=by
 unfold pMinus
 rw [M_no h,Nat.add_zero]
 rcases pPower p ts a with ⟨_|x,b⟩<;>rfl
theorem pMinus_yesN (h:isS ts a [45]=true) (hr:pMinus p ts (a+1)=(none,b)):pMinus p ts a=(none,b):=by
 unfold pMinus at hr ⊢
 rw [M_yes h,show a+(minusRun ts ts.length (a+1)+1)=a+1+minusRun ts ts.length (a+1) by omega]
 rcases h2:pPower p ts (a+1+minusRun ts ts.length (a+1)) with ⟨_|x,b⟩
 ·rw [h2] at hr;exact hr
 ·rw [h2] at hr;simp at hr
theorem pMinus_yesS (h:isS ts a [45]=true) (hr:pMinus p ts (a+1)=(some x,b)):pMinus p ts a=(some (.un 5 0 x),b):=by
 unfold pMinus at hr ⊢
 rw [M_yes h,show a+(minusRun ts ts.length (a+1)+1)=a+1+minusRun ts ts.length (a+1) by omega]
 rcases h2:pPower p ts (a+1+minusRun ts ts.length (a+1)) with ⟨_|y,b'⟩
 ·rw [h2] at hr;simp at hr
 ·rw [h2] at hr
  simp only [Prod.mk.injEq,Option.some.injEq] at hr ⊢
  obtain ⟨rfl,rfl⟩:=hr
  exact ⟨negs_succ _ _,rfl⟩
end
theorem neg_node {len:Nat}:putN 5 0 0 len []=⟨5,(len:Int)-1,0,0,[]⟩:=by
 unfold putN
 rw [if_pos (by decide)]
theorem bin_node {k first:Int} (hk:operI k=2) {len:Nat}:putN k first 0 len []=⟨k,first,(len:Int)-1,0,[]⟩:=by
 unfold putN
 rw [if_neg (by rw [hk];decide),if_pos hk]
set_option maxRecDepth 100000 in
theorem rminus_any (g:Nat) (ts:List Tok) (tv:Value) (f:Nat) (hfi:∀t∈ts,TokFine t) (d:Nat):∀a,ts.length≤a+d→(∀a',a<a'→SumR g ts tv f a')→∀(w:World) (ns:List Nd) (lg:Bool) (nv:Value),RdR g w ts a false ns lg tv nv→
  Calls Tryz.prog 91 #[.pointer (some ⟨g,0,none⟩)] w (OpPostR g ts tv ns nv lg (pMinus (pSum ts f) ts a) w):=by
 induction d with
 |zero=>
  intro a had hs w ns lg nv h
  have hz:isS ts a [45]=false:=by
   unfold isS
   rw [List.getElem?_eq_none (by omega)]
  have HM:=Lib.hid (pMinus_noS (p:=pSum ts f) hz)
  have HIM:=Lib.hid (is_any g w ts a false ns lg tv nv [45] h)
  rw [show str [45]= .string ⟨#[45]⟩ from rfl,hz] at HIM
  simp only [Bool.and_false] at HIM
  have HPW:=Lib.hid (fun W h=>rpower_any g ts tv f a hfi hs W ns lg nv h)
  have HR:=Lib.hid h
  clear h hs hz had hfi
  go_enter Tryz.func91,Tryz.ntmps91
  go_wp2_with fail
  refine HIM.out.mono ?_
  rintro e w2 ⟨rfl,hd⟩
  have HE:=Lib.hid (And.intro (HR.out.keep hd.ext) (KR.of_ext (g:=g) (nv:=nv) hd.ext))
  clear hd
  go_wp2_with fail
  refine (HPW.out w2 HE.out.1).mono ?_
  rintro e w3 hpost
  obtain ⟨rfl,nv3,hk3,hm⟩:=hpost
  have HPO:Hid (OpPostR g ts tv ns nv lg (pMinus (pSum ts f) ts a) w (.returned (.tuple #[])) w3):=Lib.hid (by
   rw [HM.out]
   exact ⟨rfl,nv3,HE.out.2.trans hk3,hm⟩)
  clear hk3 hm
  go_wp2_with fail
  (try simp only [Exit.inBlock,Exit.then])
  first
   |refine bodyPost_ret (results_none rfl _ _ _) rfl ?_
   |refine bodyPost_end (results_none rfl _ _ _) rfl ?_
  exact HPO.out
 |succ d ih=>
  intro a had hs w ns lg nv h
  have HIM:=Lib.hid (is_any g w ts a false ns lg tv nv [45] h)
  rw [show str [45]= .string ⟨#[45]⟩ from rfl] at HIM
  simp only [Bool.not_false,Bool.true_and] at HIM
  have HR:=Lib.hid h
  have HFI:=Lib.hid hfi
  obtain ⟨u,hz⟩:∃u,isS ts a [45]=u:=⟨_,rfl⟩
  rw [hz] at HIM
  cases u
  ·have HM:=Lib.hid (pMinus_noS (p:=pSum ts f) hz)
   have HPW:=Lib.hid (fun W h=>rpower_any g ts tv f a hfi hs W ns lg nv h)
   clear h hs hz had hfi ih
   go_enter Tryz.func91,Tryz.ntmps91
   go_wp2_with fail
   refine HIM.out.mono ?_
   rintro e w2 ⟨rfl,hd⟩
   have HE:=Lib.hid (And.intro (HR.out.keep hd.ext) (KR.of_ext (g:=g) (nv:=nv) hd.ext))
   clear hd
   go_wp2_with fail
   refine (HPW.out w2 HE.out.1).mono ?_
   rintro e w3 hpost
   obtain ⟨rfl,nv3,hk3,hm⟩:=hpost
   have HPO:Hid (OpPostR g ts tv ns nv lg (pMinus (pSum ts f) ts a) w (.returned (.tuple #[])) w3):=Lib.hid (by
    rw [HM.out]
    exact ⟨rfl,nv3,HE.out.2.trans hk3,hm⟩)
   clear hk3 hm
   go_wp2_with fail
   (try simp only [Exit.inBlock,Exit.then])
   first
    |refine bodyPost_ret (results_none rfl _ _ _) rfl ?_
    |refine bodyPost_end (results_none rfl _ _ _) rfl ?_
   exact HPO.out
  ·have hlt:=isS_lt hz
   have hmax:=h.max
   have HIH:=Lib.hid (ih (a+1) (by omega) (fun a' h'=>hs a' (by omega)))
   have hga:=pMinus_good (pSum_good ts f) (a+1) hlt
   have HZ:=Lib.hid hz
   have hwa:IntKind.i64.wrap ((a:Int)+1)=(a:Int)+1:=IntWalk.i64_in _ (by omega)
   clear h hs hz had hfi ih
   go_enter Tryz.func91,Tryz.ntmps91
   go_wp2_with fail
   refine HIM.out.mono ?_
   rintro e w2 ⟨rfl,hd⟩
   have hr2:=HR.out.keep hd.ext
   have HR2:=Lib.hid hr2
   have HK2:=Lib.hid (KR.of_ext (g:=g) (nv:=nv) hd.ext)
   obtain ⟨⟨k0,k1,k2,k3,k4⟩,⟨f1,f2,f3,f4⟩,hg2⟩:=hr2.blk.five'
   clear hd hr2
   go_upto_region 2 with fail
   have hst:=HR2.out.stepR hlt
   obtain ⟨w3,hw3⟩:∃w3,w3=w2.setCell ⟨g,1,none⟩ (.int .i64 ((a:Int)+1)):=⟨_,rfl⟩
   rw [←hw3] at hst ⊢
   have HK3:=Lib.hid (HK2.out.trans hst.2)
   have HC3:=Lib.hid (HIH.out w3 ns lg nv hst.1)
   clear hst hw3 k0 k1 k2 k3 k4 f1 f2 f3 f4
   go_wp2_with fail
   refine HC3.out.mono ?_
   intro e w4 hpost
   obtain ⟨r,hr⟩:∃r,pMinus (pSum ts f) ts (a+1)=r:=⟨_,rfl⟩
   rw [hr] at hga
   obtain ⟨_|x,b⟩:=r
   ·obtain ⟨rfl,nv4,ns4,lg4,hrd,hk⟩:=hpost.none_ hr
    have HD:=Lib.hid (pMinus_yesN HZ.out hr)
    have HE:=Lib.hid (And.intro (HK3.out.trans hk) hrd)
    obtain ⟨⟨k0,k1,k2,k3,k4⟩,⟨f1,f2,f3,f4⟩,hg4⟩:=hrd.blk.five'
    clear hpost hr hrd hk hga
    go_wp2_with fail
    (try simp only [Exit.inBlock,Exit.then])
    first
     |refine bodyPost_ret (results_none rfl _ _ _) rfl ?_
     |refine bodyPost_end (results_none rfl _ _ _) rfl ?_
    exact OpPostR.mkN HD.out HE.out.1 HE.out.2
   ·obtain ⟨rfl,nv4,hrd,hk⟩:=hpost.some_ hr
    have hgx:=hga.2.2 x rfl
    have hgl:=hga.2.1
    simp only at hgx hgl
    have HD:=Lib.hid (pMinus_yesS HZ.out hr)
    have HK4:=Lib.hid (HK3.out.trans hk)
    have hfw4:(ns++flat ns.length x).length+1≤b:=by have:=HR.out.few;rw [nds_len];omega
    have HPU:=Lib.hid (put_any g w4 ts b false _ _ tv nv4 5 0 0 [] hrd hfw4)
    rw [show str []= .string ⟨#[]⟩ from rfl,neg_node] at HPU
    obtain ⟨⟨k0,k1,k2,k3,k4⟩,⟨f1,f2,f3,f4⟩,hg4⟩:=hrd.blk.five'
    clear hpost hr hrd hk hga hfw4
    go_wp2_with fail
    refine HPU.out.mono ?_
    rintro e w5 ⟨nv5,rfl,hk5,hr5⟩
    have hxp:=x.size_pos
    have hbg:(lg || x.big)=(lg || (Ex.un 5 0 x).big):=by rw [Ex.big];rfl
    have HF:Hid (RdR g w5 ts b false (ns++flat ns.length (.un 5 0 x)) (lg || (Ex.un 5 0 x).big) tv nv5):=Lib.hid (hr5.as hbg (by
     rw [flat_un_snoc,←List.append_assoc,nds_len,show ((ns.length+x.size-1:Nat):Int)=((ns.length+x.size:Nat):Int)-1 by omega]
     rfl))
    have HK5:=Lib.hid (HK4.out.trans hk5)
    clear hk5 hr5 hbg
    go_wp2_with fail
    (try simp only [Exit.inBlock,Exit.then])
    first
     |refine bodyPost_ret (results_none rfl _ _ _) rfl ?_
     |refine bodyPost_end (results_none rfl _ _ _) rfl ?_
    exact OpPostR.mkS HD.out HK5.out HF.out
structure ChInvR (g:Nat) (ts:List Tok) (tv:Value) (ns:List Nd) (nv:Value) (lg:Bool) (w:World) (C:Option Ex × Nat) (op:Nat→Option Ex × Nat) (s1 s2:List UInt8) (k1 k2 a f b:Nat) (x:Ex) (nv':Value) (wr:World):Prop where
 rd:RdR g wr ts b false (ns++flat ns.length x) (lg || x.big) tv nv'
 kr:KR g nv nv' w wr
 eq:C=chainGo op ts s1 s2 k1 k2 f x b
 fuel:ts.length≤b+f
 lo:a≤b
 sz:ns.length+x.size≤b
theorem ChInvR.next {g:Nat} {ts:List Tok} {tv nv nv1 nv2 nv3 nv4:Value} {ns:List Nd} {lg:Bool} {w wr w1 w2 w3:World} {C:Option Ex × Nat} {op:Nat→Option Ex × Nat} {s1 s2:List UInt8} {k1 k2 a f b b' k n1 n2:Nat} {x y:Ex}
  (h:ChInvR g ts tv ns nv lg w C op s1 s2 k1 k2 a f b x nv1 wr) (hc:C=chainGo op ts s1 s2 k1 k2 (f-1) (.bin k x y) b') (hb:b+1+y.size≤b') (hr:RdR g w3 ts b' false (((ns++flat ns.length x)++flat (ns++flat ns.length x).length y)++[⟨(k:Int),(n1:Int)-1,(n2:Int)-1,0,[]⟩]) ((lg || x.big) || y.big) tv nv4)
  (hn1:n1=(ns++flat ns.length x).length) (hn2:n2=((ns++flat ns.length x)++flat (ns++flat ns.length x).length y).length)
  (hk1:KR g nv1 nv2 wr w1) (hk2:KR g nv2 nv3 w1 w2) (hk3:KR g nv3 nv4 w2 w3):ChInvR g ts tv ns nv lg w C op s1 s2 k1 k2 a (f-1) b' (.bin k x y) nv4 w3:=by
 subst hn1
 subst hn2
 have hx:=x.size_pos
 have hy:=y.size_pos
 have h1:=h.fuel
 have h2:=h.lo
 have h3:=h.sz
 refine ⟨?_,((h.kr.trans hk1).trans hk2).trans hk3,hc,by omega,by omega,by rw [Ex.size];omega⟩
 refine hr.as (by rw [Ex.big,Bool.or_assoc]) ?_
 rw [flat_bin]
 have e1:(ns++flat ns.length x).length=ns.length+x.size:=nds_len
 rw [e1]
 have e2:((ns++flat ns.length x)++flat (ns.length+x.size) y).length=ns.length+x.size+y.size:=by rw [List.length_append,e1,flat_len]
 rw [e2]
 rw [show ((ns.length+x.size-1:Nat):Int)=((ns.length+x.size:Nat):Int)-1 by omega,show ((ns.length+x.size+y.size-1:Nat):Int)=((ns.length+x.size+y.size:Nat):Int)-1 by omega]
 simp only [List.append_assoc]
def LoR (g:Nat) (ts:List Tok) (tv:Value) (ns:List Nd) (nv:Value) (lg:Bool) (w:World) (C:Option Ex × Nat) (op:Nat→Option Ex × Nat) (s1 s2:List UInt8) (k1 k2 a:Nat) (b:Nat) (wr:World):Prop:=
 (C=(none,b)∧∃nv' ns' lg',RdR g wr ts b true ns' lg' tv nv'∧KR g nv nv' w wr)∨∃f x nv',ChInvR g ts tv ns nv lg w C op s1 s2 k1 k2 a f b x nv' wr
theorem isS_not {ts:List Tok} {b:Nat} {c d:List UInt8} (h:isS ts b c=true) (hcd:(c == d)=false):isS ts b d=false:=by
 unfold isS at h ⊢
 cases h2:ts[b]? with
 |none=>rfl
 |some t=>
  rw [h2] at h
  simp only [Bool.and_eq_true,beq_iff_eq] at h
  simp only [h.2,hcd,Bool.and_false]
set_option maxHeartbeats 4000000 in
set_option maxRecDepth 100000 in
theorem rproduct_any (g:Nat) (ts:List Tok) (tv:Value) (f a:Nat) (hfi:∀t∈ts,TokFine t) (hs:∀a',a<a'→SumR g ts tv f a') (w:World) (ns:List Nd) (lg:Bool) (nv:Value) (h:RdR g w ts a false ns lg tv nv):
  Calls Tryz.prog 71 #[.pointer (some ⟨g,0,none⟩)] w (OpPostR g ts tv ns nv lg (pProd (pSum ts f) ts a) w):=by
 have HOP:Hid (∀a',a≤a'→∀w ns lg nv,RdR g w ts a' false ns lg tv nv→Calls Tryz.prog 91 #[.pointer (some ⟨g,0,none⟩)] w (OpPostR g ts tv ns nv lg (pMinus (pSum ts f) ts a') w)):=
  Lib.hid (fun a' ha w ns lg nv h=>rminus_any g ts tv f hfi ts.length a' (by omega) (fun b hb=>hs b (by omega)) w ns lg nv h)
 have HG:=Lib.hid (pMinus_good (pSum_good ts f))
 obtain ⟨C,hC⟩:∃C,chainP (pMinus (pSum ts f) ts) ts [42] [47] 8 9 a=C:=⟨_,rfl⟩
 rw [show pProd (pSum ts f) ts a=chainP (pMinus (pSum ts f) ts) ts [42] [47] 8 9 a from rfl,hC]
 generalize pMinus (pSum ts f) ts=op at *
 clear hs hfi
 have HI1:=Lib.hid (fun W a bad ns lg nv h=>is_any g W ts a bad ns lg tv nv [42] h)
 have HI2:=Lib.hid (fun W a bad ns lg nv h=>is_any g W ts a bad ns lg tv nv [47] h)
 rw [show str [42]= .string ⟨#[42]⟩ from rfl] at HI1
 rw [show str [47]= .string ⟨#[47]⟩ from rfl] at HI2
 have hle:=h.le
 have hmax:=h.max
 have hfew:=h.few
 have HC:Hid (∀r,op a=r→C=match r with|(none,b)=>(none,b)|(some x,b)=>chainGo op ts [42] [47] 8 9 ts.length x b):=Lib.hid (fun r hr=>by rw [←hC];unfold chainP;rw [hr]<;>(obtain ⟨_|x,b⟩:=r<;>rfl))
 have hga:=HG.out a hle
 have HO:=Lib.hid (HOP.out a (Nat.le_refl _) w ns lg nv h)
 clear h hC
 go_enter Tryz.func71,Tryz.ntmps71
 go_wp2_with fail
 refine HO.out.mono ?_
 intro e w3 hpost
 have hst:e= .returned (.tuple #[])∧∃b,LoR g ts tv ns nv lg w C op [42] [47] 8 9 a b w3:=by
  obtain ⟨r,hr⟩:∃r,op a=r:=⟨_,rfl⟩
  have hC:=HC.out r hr
  rw [hr] at hga
  obtain ⟨_|x,b⟩:=r
  ·obtain ⟨rfl,nv1,ns1,lg1,hrd,hk⟩:=hpost.none_ hr
   exact ⟨rfl,b,.inl ⟨hC,nv1,ns1,lg1,hrd,hk⟩⟩
  ·obtain ⟨rfl,nv1,hrd,hk⟩:=hpost.some_ hr
   have hgs:=hga.2.2 x rfl
   have hgl:=hga.1
   simp only at hgs hgl
   exact ⟨rfl,b,.inr ⟨ts.length,x,nv1,hrd,hk,hC,by omega,hgl,by omega⟩⟩
 obtain ⟨rfl,b0,hlo⟩:=hst
 have HLO:=Lib.hid hlo
 clear hpost hlo hga HO HC
 go_wp2_with fail
 go_loopg [] (ts.length-b0) (fun gh wr=>∃b,gh=ts.length-b∧LoR g ts tv ns nv lg w C op [42] [47] 8 9 a b wr)
 case atStart=>exact ⟨b0,rfl,HLO.out⟩
 case round=>
  obtain ⟨b,hgg,⟨hcn,nv1,ns1,lg1,hrd,hkr⟩|⟨f1',x,nv1,hinv⟩⟩:=hrel
  ·have HE:=Lib.hid (And.intro hkr hrd)
   have HCN:=Lib.hid hcn
   have HB1:=Lib.hid (HI1.out wr b true ns1 lg1 nv1 hrd)
   simp only [Bool.not_true,Bool.false_and] at HB1
   clear hgg hcn hrd hkr HLO
   go_wp2_with fail
   refine HB1.out.mono ?_
   rintro e w4 ⟨rfl,hd⟩
   have HE2:=Lib.hid (And.intro (HE.out.1.trans (KR.of_ext hd.ext)) (HE.out.2.keep hd.ext))
   have HB2:=Lib.hid (HI2.out w4 b true ns1 lg1 nv1 HE2.out.2)
   simp only [Bool.not_true,Bool.false_and] at HB2
   clear hd
   go_wp2_with fail
   refine HB2.out.mono ?_
   rintro e w5 ⟨rfl,hd⟩
   have HE3:=Lib.hid (And.intro (HE2.out.1.trans (KR.of_ext hd.ext)) (HE2.out.2.keep hd.ext))
   clear hd
   go_wp2_with fail
   (try simp only [Exit.inBlock,Exit.then])
   first
    |refine bodyPost_ret (results_none rfl _ _ _) rfl ?_
    |refine bodyPost_end (results_none rfl _ _ _) rfl ?_
   exact OpPostR.mkN HCN.out HE3.out.1 HE3.out.2
  ·have HGG:=Lib.hid hgg
   have HI:=Lib.hid hinv
   have HX1:=Lib.hid (HI1.out wr b false _ _ nv1 hinv.rd)
   simp only [Bool.not_false,Bool.true_and] at HX1
   have hbl:=hinv.rd.le
   have hbf:=hinv.fuel
   clear hgg hinv HLO
   obtain ⟨u1,hu1⟩:∃u,isS ts b [42]=u:=⟨_,rfl⟩
   rw [hu1] at HX1
   cases u1
   ·go_wp2_with fail
    refine HX1.out.mono ?_
    rintro e w3' ⟨rfl,hd⟩
    have HK3:=Lib.hid (KR.of_ext (g:=g) (nv:=nv1) hd.ext)
    have HR3:=Lib.hid (HI.out.rd.keep hd.ext)
    have HX2:=Lib.hid (HI2.out w3' b false _ _ nv1 HR3.out)
    simp only [Bool.not_false,Bool.true_and] at HX2
    clear hd
    obtain ⟨u2,hu2⟩:∃u,isS ts b [47]=u:=⟨_,rfl⟩
    rw [hu2] at HX2
    cases u2
    ·have HDN:Hid (C=(some x,b)):=Lib.hid (by rw [HI.out.eq,chainGo_stop f1' hu1 hu2])
     go_wp2_with fail
     refine HX2.out.mono ?_
     rintro e w4 ⟨rfl,hd⟩
     have HE:=Lib.hid (And.intro ((HI.out.kr.trans HK3.out).trans (KR.of_ext hd.ext)) (HR3.out.keep hd.ext))
     clear hd
     go_wp2_with fail
     (try simp only [Exit.inBlock,Exit.then])
     first
      |refine bodyPost_ret (results_none rfl _ _ _) rfl ?_
      |refine bodyPost_end (results_none rfl _ _ _) rfl ?_
     exact OpPostR.mkS HDN.out HE.out.1 HE.out.2
    ·have hltb:=isS_lt hu2
     have hwb:IntKind.i64.wrap ((b:Int)+1)=(b:Int)+1:=IntWalk.i64_in _ (by omega)
     go_wp2_with fail
     refine HX2.out.mono ?_
     rintro e w4 ⟨rfl,hd⟩
     have HK4:=Lib.hid (HK3.out.trans (KR.of_ext hd.ext))
     have HR4:=Lib.hid (HR3.out.keep hd.ext)
     have HX4:=Lib.hid (HI2.out w4 b false _ _ nv1 HR4.out)
     simp only [Bool.not_false,Bool.true_and] at HX4
     rw [hu2] at HX4
     clear hd
     go_wp2_with fail
     refine HX4.out.mono ?_
     rintro e w5 ⟨rfl,hd⟩
     have hr5:=HR4.out.keep hd.ext
     have HR5:=Lib.hid hr5
     have HK5:=Lib.hid (HK4.out.trans (KR.of_ext hd.ext))
     obtain ⟨A2,c2,rfl⟩:=hr5.row.shape
     obtain ⟨n1,hn1⟩:∃n1,n1=(ns++flat ns.length x).length:=⟨_,rfl⟩
     obtain ⟨⟨k0,k1,k2,k3,k4⟩,⟨f1,f2,f3,f4⟩,hg5⟩:=hr5.blk.five'
     have hsz1:1≤n1:=by rw [hn1,nds_len];have:=x.size_pos;omega
     have hfw5:n1≤b:=by rw [hn1];exact hr5.few
     rw [←hn1] at k3
     have HN1:=Lib.hid hn1
     have hwn:IntKind.i64.wrap ((n1:Int)-1)=(n1:Int)-1:=IntWalk.i64_in _ (by omega)
     clear hd hr5 hn1
     go_upto_region 7 with fail
     have hst:=HR5.out.stepR hltb
     obtain ⟨w6,hw6⟩:∃w6,w6=w5.setCell ⟨g,1,none⟩ (.int .i64 ((b:Int)+1)):=⟨_,rfl⟩
     rw [←hw6] at hst ⊢
     have HK6:=Lib.hid (HK5.out.trans hst.2)
     have HO2:=Lib.hid (HOP.out (b+1) (by have:=HI.out.lo;omega) w6 _ _ _ hst.1)
     have hgb:=HG.out (b+1) hltb
     obtain ⟨r,hr⟩:∃r,op (b+1)=r:=⟨_,rfl⟩
     have HCE:Hid (C=chTail op ts [42] [47] 8 9 (f1'-1) 9 x r):=Lib.hid (by rw [HI.out.eq,chainGo_two (by omega) hu1 hu2,hr])
     rw [hr] at hgb
     clear hst hw6 k0 k1 k2 k3 k4 f1 f2 f3 f4
     go_wp2_with fail
     refine HO2.out.mono ?_
     intro e w7 hpost
     obtain ⟨_|y,b'⟩:=r
     ·obtain ⟨rfl,nv7,ns7,lg7,hrd,hk⟩:=hpost.none_ hr
      have hgl:=hgb.1
      simp only at hgl
      have hbn:=hgb.2.1
      simp only at hbn
      have HF:Hid (LoR g ts tv ns nv lg w C op [42] [47] 8 9 a b' w7):=Lib.hid (.inl ⟨HCE.out,nv7,ns7,lg7,hrd,(HI.out.kr.trans HK6.out).trans hk⟩)
      obtain ⟨⟨k0,k1,k2,k3,k4⟩,⟨f1,f2,f3,f4⟩,hg7⟩:=hrd.blk.five'
      clear hpost hr hrd hk hgb
      go_wp2_with fail
      go_roundg (ts.length-b')
      case rel=>exact ⟨b',rfl,HF.out⟩
      case measure=>rw [HGG.out];omega
     ·obtain ⟨rfl,nv7,hrd,hk⟩:=hpost.some_ hr
      have hys:=hgb.2.2 y rfl
      have hbn:=hgb.2.1
      simp only at hys hbn
      have HK7:=Lib.hid hk
      have hfw7:((ns++flat ns.length x)++flat (ns++flat ns.length x).length y).length+1≤b':=by have:=HI.out.sz;rw [nds_len,nds_len];omega
      have HPU:=Lib.hid (put_any g w7 ts b' false _ _ tv nv7 9 ((n1:Int)-1) 0 [] hrd hfw7)
      rw [show str []= .string ⟨#[]⟩ from rfl,bin_node (by decide)] at HPU
      obtain ⟨n2,hn2⟩:∃n2,n2=((ns++flat ns.length x)++flat (ns++flat ns.length x).length y).length:=⟨_,rfl⟩
      rw [←hn2] at HPU
      have HN2:=Lib.hid hn2
      obtain ⟨⟨k0,k1,k2,k3,k4⟩,⟨f1,f2,f3,f4⟩,hg7⟩:=hrd.blk.five'
      clear hpost hr hrd hk hgb hn2 hfw7
      go_wp2_with fail
      refine HPU.out.mono ?_
      rintro e w8 ⟨nv8,rfl,hk8,hr8⟩
      have HF:Hid (LoR g ts tv ns nv lg w C op [42] [47] 8 9 a b' w8):=Lib.hid (.inr ⟨f1'-1,.bin 9 x y,nv8,HI.out.next HCE.out hys hr8 HN1.out HN2.out HK6.out HK7.out hk8⟩)
      clear hk8 hr8
      go_wp2_with fail
      go_roundg (ts.length-b')
      case rel=>exact ⟨b',rfl,HF.out⟩
      case measure=>rw [HGG.out];omega
   ·have hltb:=isS_lt hu1
    have hwb:IntKind.i64.wrap ((b:Int)+1)=(b:Int)+1:=IntWalk.i64_in _ (by omega)
    have hu2:=isS_not (d:=[47]) hu1 (by decide)
    go_wp2_with fail
    refine HX1.out.mono ?_
    rintro e w4 ⟨rfl,hd⟩
    have HK4:=Lib.hid (KR.of_ext (g:=g) (nv:=nv1) hd.ext)
    have HR4:=Lib.hid (HI.out.rd.keep hd.ext)
    have HX4:=Lib.hid (HI2.out w4 b false _ _ nv1 HR4.out)
    simp only [Bool.not_false,Bool.true_and] at HX4
    rw [hu2] at HX4
    clear hd
    go_wp2_with fail
    refine HX4.out.mono ?_
    rintro e w5 ⟨rfl,hd⟩
    have hr5:=HR4.out.keep hd.ext
    have HR5:=Lib.hid hr5
    have HK5:=Lib.hid (HK4.out.trans (KR.of_ext hd.ext))
    obtain ⟨A2,c2,rfl⟩:=hr5.row.shape
    obtain ⟨n1,hn1⟩:∃n1,n1=(ns++flat ns.length x).length:=⟨_,rfl⟩
    obtain ⟨⟨k0,k1,k2,k3,k4⟩,⟨f1,f2,f3,f4⟩,hg5⟩:=hr5.blk.five'
    have hsz1:1≤n1:=by rw [hn1,nds_len];have:=x.size_pos;omega
    have hfw5:n1≤b:=by rw [hn1];exact hr5.few
    rw [←hn1] at k3
    have HN1:=Lib.hid hn1
    have hwn:IntKind.i64.wrap ((n1:Int)-1)=(n1:Int)-1:=IntWalk.i64_in _ (by omega)
    clear hd hr5 hn1
    go_upto_region 7 with fail
    have hst:=HR5.out.stepR hltb
    obtain ⟨w6,hw6⟩:∃w6,w6=w5.setCell ⟨g,1,none⟩ (.int .i64 ((b:Int)+1)):=⟨_,rfl⟩
    rw [←hw6] at hst ⊢
    have HK6:=Lib.hid (HK5.out.trans hst.2)
    have HO2:=Lib.hid (HOP.out (b+1) (by have:=HI.out.lo;omega) w6 _ _ _ hst.1)
    have hgb:=HG.out (b+1) hltb
    obtain ⟨r,hr⟩:∃r,op (b+1)=r:=⟨_,rfl⟩
    have HCE:Hid (C=chTail op ts [42] [47] 8 9 (f1'-1) 8 x r):=Lib.hid (by rw [HI.out.eq,chainGo_one (by omega) hu1,hr])
    rw [hr] at hgb
    clear hst hw6 k0 k1 k2 k3 k4 f1 f2 f3 f4
    go_wp2_with fail
    refine HO2.out.mono ?_
    intro e w7 hpost
    obtain ⟨_|y,b'⟩:=r
    ·obtain ⟨rfl,nv7,ns7,lg7,hrd,hk⟩:=hpost.none_ hr
     have hgl:=hgb.1
     simp only at hgl
     have hbn:=hgb.2.1
     simp only at hbn
     have HF:Hid (LoR g ts tv ns nv lg w C op [42] [47] 8 9 a b' w7):=Lib.hid (.inl ⟨HCE.out,nv7,ns7,lg7,hrd,(HI.out.kr.trans HK6.out).trans hk⟩)
     obtain ⟨⟨k0,k1,k2,k3,k4⟩,⟨f1,f2,f3,f4⟩,hg7⟩:=hrd.blk.five'
     clear hpost hr hrd hk hgb
     go_wp2_with fail
     go_roundg (ts.length-b')
     case rel=>exact ⟨b',rfl,HF.out⟩
     case measure=>rw [HGG.out];omega
    ·obtain ⟨rfl,nv7,hrd,hk⟩:=hpost.some_ hr
     have hys:=hgb.2.2 y rfl
     have hbn:=hgb.2.1
     simp only at hys hbn
     have HK7:=Lib.hid hk
     have hfw7:((ns++flat ns.length x)++flat (ns++flat ns.length x).length y).length+1≤b':=by have:=HI.out.sz;rw [nds_len,nds_len];omega
     have HPU:=Lib.hid (put_any g w7 ts b' false _ _ tv nv7 8 ((n1:Int)-1) 0 [] hrd hfw7)
     rw [show str []= .string ⟨#[]⟩ from rfl,bin_node (by decide)] at HPU
     obtain ⟨n2,hn2⟩:∃n2,n2=((ns++flat ns.length x)++flat (ns++flat ns.length x).length y).length:=⟨_,rfl⟩
     rw [←hn2] at HPU
     have HN2:=Lib.hid hn2
     obtain ⟨⟨k0,k1,k2,k3,k4⟩,⟨f1,f2,f3,f4⟩,hg7⟩:=hrd.blk.five'
     clear hpost hr hrd hk hgb hn2 hfw7
     go_wp2_with fail
     refine HPU.out.mono ?_
     rintro e w8 ⟨nv8,rfl,hk8,hr8⟩
     have HF:Hid (LoR g ts tv ns nv lg w C op [42] [47] 8 9 a b' w8):=Lib.hid (.inr ⟨f1'-1,.bin 8 x y,nv8,HI.out.next HCE.out hys hr8 HN1.out HN2.out HK6.out HK7.out hk8⟩)
     clear hk8 hr8
     go_wp2_with fail
     go_roundg (ts.length-b')
     case rel=>exact ⟨b',rfl,HF.out⟩
     case measure=>rw [HGG.out];omega
set_option maxHeartbeats 4000000 in
set_option maxRecDepth 100000 in
theorem rsum_any (g:Nat) (ts:List Tok) (tv:Value) (hfi:∀t∈ts,TokFine t) (f:Nat):∀a,ts.length<a+f→SumR g ts tv f a:=by
 induction f with
 |zero=>intro a ha w ns lg nv h;have:=h.le;omega
 |succ f ih=>
  intro a ha w ns lg nv h
  have HOP:Hid (∀a',a≤a'→∀w ns lg nv,RdR g w ts a' false ns lg tv nv→Calls Tryz.prog 71 #[.pointer (some ⟨g,0,none⟩)] w (OpPostR g ts tv ns nv lg (pProd (pSum ts f) ts a') w)):=
   Lib.hid (fun a' ha w ns lg nv h=>rproduct_any g ts tv f a' hfi (fun b hb=>ih b (by omega)) w ns lg nv h)
  have HG:=Lib.hid (pProd_good (pSum_good ts f))
  obtain ⟨C,hC⟩:∃C,chainP (pProd (pSum ts f) ts) ts [43] [45] 6 7 a=C:=⟨_,rfl⟩
  rw [show pSum ts (f+1) a=chainP (pProd (pSum ts f) ts) ts [43] [45] 6 7 a from rfl,hC]
  generalize pProd (pSum ts f) ts=op at *
  clear ih hfi ha
  have HI1:=Lib.hid (fun W a bad ns lg nv h=>is_any g W ts a bad ns lg tv nv [43] h)
  have HI2:=Lib.hid (fun W a bad ns lg nv h=>is_any g W ts a bad ns lg tv nv [45] h)
  rw [show str [43]= .string ⟨#[43]⟩ from rfl] at HI1
  rw [show str [45]= .string ⟨#[45]⟩ from rfl] at HI2
  have hle:=h.le
  have hmax:=h.max
  have hfew:=h.few
  have HC:Hid (∀r,op a=r→C=match r with|(none,b)=>(none,b)|(some x,b)=>chainGo op ts [43] [45] 6 7 ts.length x b):=Lib.hid (fun r hr=>by rw [←hC];unfold chainP;rw [hr]<;>(obtain ⟨_|x,b⟩:=r<;>rfl))
  have hga:=HG.out a hle
  have HO:=Lib.hid (HOP.out a (Nat.le_refl _) w ns lg nv h)
  clear h hC
  go_enter Tryz.func51,Tryz.ntmps51
  go_wp2_with fail
  refine HO.out.mono ?_
  intro e w3 hpost
  have hst:e= .returned (.tuple #[])∧∃b,LoR g ts tv ns nv lg w C op [43] [45] 6 7 a b w3:=by
   obtain ⟨r,hr⟩:∃r,op a=r:=⟨_,rfl⟩
   have hC:=HC.out r hr
   rw [hr] at hga
   obtain ⟨_|x,b⟩:=r
   ·obtain ⟨rfl,nv1,ns1,lg1,hrd,hk⟩:=hpost.none_ hr
    exact ⟨rfl,b,.inl ⟨hC,nv1,ns1,lg1,hrd,hk⟩⟩
   ·obtain ⟨rfl,nv1,hrd,hk⟩:=hpost.some_ hr
    have hgs:=hga.2.2 x rfl
    have hgl:=hga.1
    simp only at hgs hgl
    exact ⟨rfl,b,.inr ⟨ts.length,x,nv1,hrd,hk,hC,by omega,hgl,by omega⟩⟩
  obtain ⟨rfl,b0,hlo⟩:=hst
  have HLO:=Lib.hid hlo
  clear hpost hlo hga HO HC
  go_wp2_with fail
  go_loopg [] (ts.length-b0) (fun gh wr=>∃b,gh=ts.length-b∧LoR g ts tv ns nv lg w C op [43] [45] 6 7 a b wr)
  case atStart=>exact ⟨b0,rfl,HLO.out⟩
  case round=>
   obtain ⟨b,hgg,⟨hcn,nv1,ns1,lg1,hrd,hkr⟩|⟨f1',x,nv1,hinv⟩⟩:=hrel
   ·have HE:=Lib.hid (And.intro hkr hrd)
    have HCN:=Lib.hid hcn
    have HB1:=Lib.hid (HI1.out wr b true ns1 lg1 nv1 hrd)
    simp only [Bool.not_true,Bool.false_and] at HB1
    clear hgg hcn hrd hkr HLO
    go_wp2_with fail
    refine HB1.out.mono ?_
    rintro e w4 ⟨rfl,hd⟩
    have HE2:=Lib.hid (And.intro (HE.out.1.trans (KR.of_ext hd.ext)) (HE.out.2.keep hd.ext))
    have HB2:=Lib.hid (HI2.out w4 b true ns1 lg1 nv1 HE2.out.2)
    simp only [Bool.not_true,Bool.false_and] at HB2
    clear hd
    go_wp2_with fail
    refine HB2.out.mono ?_
    rintro e w5 ⟨rfl,hd⟩
    have HE3:=Lib.hid (And.intro (HE2.out.1.trans (KR.of_ext hd.ext)) (HE2.out.2.keep hd.ext))
    clear hd
    go_wp2_with fail
    (try simp only [Exit.inBlock,Exit.then])
    first
     |refine bodyPost_ret (results_none rfl _ _ _) rfl ?_
     |refine bodyPost_end (results_none rfl _ _ _) rfl ?_
    exact OpPostR.mkN HCN.out HE3.out.1 HE3.out.2
   ·have HGG:=Lib.hid hgg
    have HI:=Lib.hid hinv
    have HX1:=Lib.hid (HI1.out wr b false _ _ nv1 hinv.rd)
    simp only [Bool.not_false,Bool.true_and] at HX1
    have hbl:=hinv.rd.le
    have hbf:=hinv.fuel
    clear hgg hinv HLO
    obtain ⟨u1,hu1⟩:∃u,isS ts b [43]=u:=⟨_,rfl⟩
    rw [hu1] at HX1
    cases u1
    ·go_wp2_with fail
     refine HX1.out.mono ?_
     rintro e w3' ⟨rfl,hd⟩
     have HK3:=Lib.hid (KR.of_ext (g:=g) (nv:=nv1) hd.ext)
     have HR3:=Lib.hid (HI.out.rd.keep hd.ext)
     have HX2:=Lib.hid (HI2.out w3' b false _ _ nv1 HR3.out)
     simp only [Bool.not_false,Bool.true_and] at HX2
     clear hd
     obtain ⟨u2,hu2⟩:∃u,isS ts b [45]=u:=⟨_,rfl⟩
     rw [hu2] at HX2
     cases u2
     ·have HDN:Hid (C=(some x,b)):=Lib.hid (by rw [HI.out.eq,chainGo_stop f1' hu1 hu2])
      go_wp2_with fail
      refine HX2.out.mono ?_
      rintro e w4 ⟨rfl,hd⟩
      have HE:=Lib.hid (And.intro ((HI.out.kr.trans HK3.out).trans (KR.of_ext hd.ext)) (HR3.out.keep hd.ext))
      clear hd
      go_wp2_with fail
      (try simp only [Exit.inBlock,Exit.then])
      first
       |refine bodyPost_ret (results_none rfl _ _ _) rfl ?_
       |refine bodyPost_end (results_none rfl _ _ _) rfl ?_
      exact OpPostR.mkS HDN.out HE.out.1 HE.out.2
     ·have hltb:=isS_lt hu2
      have hwb:IntKind.i64.wrap ((b:Int)+1)=(b:Int)+1:=IntWalk.i64_in _ (by omega)
      go_wp2_with fail
      refine HX2.out.mono ?_
      rintro e w4 ⟨rfl,hd⟩
      have HK4:=Lib.hid (HK3.out.trans (KR.of_ext hd.ext))
      have HR4:=Lib.hid (HR3.out.keep hd.ext)
      have HX4:=Lib.hid (HI2.out w4 b false _ _ nv1 HR4.out)
      simp only [Bool.not_false,Bool.true_and] at HX4
      rw [hu2] at HX4
      clear hd
      go_wp2_with fail
      refine HX4.out.mono ?_
      rintro e w5 ⟨rfl,hd⟩
      have hr5:=HR4.out.keep hd.ext
      have HR5:=Lib.hid hr5
      have HK5:=Lib.hid (HK4.out.trans (KR.of_ext hd.ext))
      obtain ⟨A2,c2,rfl⟩:=hr5.row.shape
      obtain ⟨n1,hn1⟩:∃n1,n1=(ns++flat ns.length x).length:=⟨_,rfl⟩
      obtain ⟨⟨k0,k1,k2,k3,k4⟩,⟨f1,f2,f3,f4⟩,hg5⟩:=hr5.blk.five'
      have hsz1:1≤n1:=by rw [hn1,nds_len];have:=x.size_pos;omega
      have hfw5:n1≤b:=by rw [hn1];exact hr5.few
      rw [←hn1] at k3
      have HN1:=Lib.hid hn1
      have hwn:IntKind.i64.wrap ((n1:Int)-1)=(n1:Int)-1:=IntWalk.i64_in _ (by omega)
      clear hd hr5 hn1
      go_upto_region 7 with fail
      have hst:=HR5.out.stepR hltb
      obtain ⟨w6,hw6⟩:∃w6,w6=w5.setCell ⟨g,1,none⟩ (.int .i64 ((b:Int)+1)):=⟨_,rfl⟩
      rw [←hw6] at hst ⊢
      have HK6:=Lib.hid (HK5.out.trans hst.2)
      have HO2:=Lib.hid (HOP.out (b+1) (by have:=HI.out.lo;omega) w6 _ _ _ hst.1)
      have hgb:=HG.out (b+1) hltb
      obtain ⟨r,hr⟩:∃r,op (b+1)=r:=⟨_,rfl⟩
      have HCE:Hid (C=chTail op ts [43] [45] 6 7 (f1'-1) 7 x r):=Lib.hid (by rw [HI.out.eq,chainGo_two (by omega) hu1 hu2,hr])
      rw [hr] at hgb
      clear hst hw6 k0 k1 k2 k3 k4 f1 f2 f3 f4
      go_wp2_with fail
      refine HO2.out.mono ?_
      intro e w7 hpost
      obtain ⟨_|y,b'⟩:=r
      ·obtain ⟨rfl,nv7,ns7,lg7,hrd,hk⟩:=hpost.none_ hr
       have hgl:=hgb.1
       simp only at hgl
       have hbn:=hgb.2.1
       simp only at hbn
       have HF:Hid (LoR g ts tv ns nv lg w C op [43] [45] 6 7 a b' w7):=Lib.hid (.inl ⟨HCE.out,nv7,ns7,lg7,hrd,(HI.out.kr.trans HK6.out).trans hk⟩)
       obtain ⟨⟨k0,k1,k2,k3,k4⟩,⟨f1,f2,f3,f4⟩,hg7⟩:=hrd.blk.five'
       clear hpost hr hrd hk hgb
       go_wp2_with fail
       go_roundg (ts.length-b')
       case rel=>exact ⟨b',rfl,HF.out⟩
       case measure=>rw [HGG.out];omega
      ·obtain ⟨rfl,nv7,hrd,hk⟩:=hpost.some_ hr
       have hys:=hgb.2.2 y rfl
       have hbn:=hgb.2.1
       simp only at hys hbn
       have HK7:=Lib.hid hk
       have hfw7:((ns++flat ns.length x)++flat (ns++flat ns.length x).length y).length+1≤b':=by have:=HI.out.sz;rw [nds_len,nds_len];omega
       have HPU:=Lib.hid (put_any g w7 ts b' false _ _ tv nv7 7 ((n1:Int)-1) 0 [] hrd hfw7)
       rw [show str []= .string ⟨#[]⟩ from rfl,bin_node (by decide)] at HPU
       obtain ⟨n2,hn2⟩:∃n2,n2=((ns++flat ns.length x)++flat (ns++flat ns.length x).length y).length:=⟨_,rfl⟩
       rw [←hn2] at HPU
       have HN2:=Lib.hid hn2
       obtain ⟨⟨k0,k1,k2,k3,k4⟩,⟨f1,f2,f3,f4⟩,hg7⟩:=hrd.blk.five'
       clear hpost hr hrd hk hgb hn2 hfw7
       go_wp2_with fail
       refine HPU.out.mono ?_
       rintro e w8 ⟨nv8,rfl,hk8,hr8⟩
       have HF:Hid (LoR g ts tv ns nv lg w C op [43] [45] 6 7 a b' w8):=Lib.hid (.inr ⟨f1'-1,.bin 7 x y,nv8,HI.out.next HCE.out hys hr8 HN1.out HN2.out HK6.out HK7.out hk8⟩)
       clear hk8 hr8
       go_wp2_with fail
       go_roundg (ts.length-b')
       case rel=>exact ⟨b',rfl,HF.out⟩
       case measure=>rw [HGG.out];omega
    ·have hltb:=isS_lt hu1
     have hwb:IntKind.i64.wrap ((b:Int)+1)=(b:Int)+1:=IntWalk.i64_in _ (by omega)
     have hu2:=isS_not (d:=[45]) hu1 (by decide)
     go_wp2_with fail
     refine HX1.out.mono ?_
     rintro e w4 ⟨rfl,hd⟩
     have HK4:=Lib.hid (KR.of_ext (g:=g) (nv:=nv1) hd.ext)
     have HR4:=Lib.hid (HI.out.rd.keep hd.ext)
     have HX4:=Lib.hid (HI2.out w4 b false _ _ nv1 HR4.out)
     simp only [Bool.not_false,Bool.true_and] at HX4
     rw [hu2] at HX4
     clear hd
     go_wp2_with fail
     refine HX4.out.mono ?_
     rintro e w5 ⟨rfl,hd⟩
     have hr5:=HR4.out.keep hd.ext
     have HR5:=Lib.hid hr5
     have HK5:=Lib.hid (HK4.out.trans (KR.of_ext hd.ext))
     obtain ⟨A2,c2,rfl⟩:=hr5.row.shape
     obtain ⟨n1,hn1⟩:∃n1,n1=(ns++flat ns.length x).length:=⟨_,rfl⟩
     obtain ⟨⟨k0,k1,k2,k3,k4⟩,⟨f1,f2,f3,f4⟩,hg5⟩:=hr5.blk.five'
     have hsz1:1≤n1:=by rw [hn1,nds_len];have:=x.size_pos;omega
     have hfw5:n1≤b:=by rw [hn1];exact hr5.few
     rw [←hn1] at k3
     have HN1:=Lib.hid hn1
     have hwn:IntKind.i64.wrap ((n1:Int)-1)=(n1:Int)-1:=IntWalk.i64_in _ (by omega)
     clear hd hr5 hn1
     go_upto_region 7 with fail
     have hst:=HR5.out.stepR hltb
     obtain ⟨w6,hw6⟩:∃w6,w6=w5.setCell ⟨g,1,none⟩ (.int .i64 ((b:Int)+1)):=⟨_,rfl⟩
     rw [←hw6] at hst ⊢
     have HK6:=Lib.hid (HK5.out.trans hst.2)
     have HO2:=Lib.hid (HOP.out (b+1) (by have:=HI.out.lo;omega) w6 _ _ _ hst.1)
     have hgb:=HG.out (b+1) hltb
     obtain ⟨r,hr⟩:∃r,op (b+1)=r:=⟨_,rfl⟩
     have HCE:Hid (C=chTail op ts [43] [45] 6 7 (f1'-1) 6 x r):=Lib.hid (by rw [HI.out.eq,chainGo_one (by omega) hu1,hr])
     rw [hr] at hgb
     clear hst hw6 k0 k1 k2 k3 k4 f1 f2 f3 f4
     go_wp2_with fail
     refine HO2.out.mono ?_
     intro e w7 hpost
     obtain ⟨_|y,b'⟩:=r
     ·obtain ⟨rfl,nv7,ns7,lg7,hrd,hk⟩:=hpost.none_ hr
      have hgl:=hgb.1
      simp only at hgl
      have hbn:=hgb.2.1
      simp only at hbn
      have HF:Hid (LoR g ts tv ns nv lg w C op [43] [45] 6 7 a b' w7):=Lib.hid (.inl ⟨HCE.out,nv7,ns7,lg7,hrd,(HI.out.kr.trans HK6.out).trans hk⟩)
      obtain ⟨⟨k0,k1,k2,k3,k4⟩,⟨f1,f2,f3,f4⟩,hg7⟩:=hrd.blk.five'
      clear hpost hr hrd hk hgb
      go_wp2_with fail
      go_roundg (ts.length-b')
      case rel=>exact ⟨b',rfl,HF.out⟩
      case measure=>rw [HGG.out];omega
     ·obtain ⟨rfl,nv7,hrd,hk⟩:=hpost.some_ hr
      have hys:=hgb.2.2 y rfl
      have hbn:=hgb.2.1
      simp only at hys hbn
      have HK7:=Lib.hid hk
      have hfw7:((ns++flat ns.length x)++flat (ns++flat ns.length x).length y).length+1≤b':=by have:=HI.out.sz;rw [nds_len,nds_len];omega
      have HPU:=Lib.hid (put_any g w7 ts b' false _ _ tv nv7 6 ((n1:Int)-1) 0 [] hrd hfw7)
      rw [show str []= .string ⟨#[]⟩ from rfl,bin_node (by decide)] at HPU
      obtain ⟨n2,hn2⟩:∃n2,n2=((ns++flat ns.length x)++flat (ns++flat ns.length x).length y).length:=⟨_,rfl⟩
      rw [←hn2] at HPU
      have HN2:=Lib.hid hn2
      obtain ⟨⟨k0,k1,k2,k3,k4⟩,⟨f1,f2,f3,f4⟩,hg7⟩:=hrd.blk.five'
      clear hpost hr hrd hk hgb hn2 hfw7
      go_wp2_with fail
      refine HPU.out.mono ?_
      rintro e w8 ⟨nv8,rfl,hk8,hr8⟩
      have HF:Hid (LoR g ts tv ns nv lg w C op [43] [45] 6 7 a b' w8):=Lib.hid (.inr ⟨f1'-1,.bin 6 x y,nv8,HI.out.next HCE.out hys hr8 HN1.out HN2.out HK6.out HK7.out hk8⟩)
      clear hk8 hr8
      go_wp2_with fail
      go_roundg (ts.length-b')
      case rel=>exact ⟨b',rfl,HF.out⟩
      case measure=>rw [HGG.out];omega
end Big
end Go.Proofs.YtaccjdbbkmhanaaGreatDoor
