import Derived.Test.YtaccjdbbkmhanaaGreatDoorM36
import Derived.Test.YtaccjdbbkmhanaaGreatDoorM37
import Derived.Test.YtaccjdbbkmhanaaGreatDoorM34
import Derived.Laws.StructEq
namespace Go.Proofs.YtaccjdbbkmhanaaGreatDoor
namespace Big
open Go.RowKit
def TextsOf (ns:List Nd) (L:List Nat) (T:List Tx):Prop:=(∀t,t∈T↔∃j∈L,∃x,ns[j]? =some x∧x.kind=2∧x.text=t)∧T.length≤L.length∧∀t∈T,t.length≤400
theorem TextsOf.nil (ns:List Nd):TextsOf ns [] []:=⟨fun t=>by simp,Nat.le_refl _,fun t ht=>by cases ht⟩
theorem TextsOf.add {ns:List Nd} {L:List Nat} {T:List Tx} (h:TextsOf ns L T) {j:Nat} {x:Nd} (hx:ns[j]? =some x) (hk:x.kind=2) (hl:x.text.length≤400):TextsOf ns (L++[j]) (T++[x.text]):=by
 refine ⟨fun t=> ?_,by simp only [List.length_append,List.length_singleton];have:=h.2.1;omega,fun t ht=> ?_⟩
 ·rw [List.mem_append,List.mem_singleton,h.1 t]
  constructor
  ·rintro (⟨q,hq,r⟩|rfl)
   ·exact ⟨q,List.mem_append_left _ hq,r⟩
   ·exact ⟨j,by simp,x,hx,hk,rfl⟩
  ·rintro ⟨q,hq,y,h1,h2,h3⟩
   rcases List.mem_append.1 hq with h4|h4
   ·exact .inl ⟨q,h4,y,h1,h2,h3⟩
   ·rw [List.mem_singleton.1 h4,hx] at h1
    injection h1 with h1
    subst h1
    exact .inr h3.symm
 ·rcases List.mem_append.1 ht with h4|h4
  ·exact h.2.2 t h4
  ·rw [List.mem_singleton.1 h4];exact hl
theorem TextsOf.skip {ns:List Nd} {L:List Nat} {T:List Tx} (h:TextsOf ns L T) {j:Nat} {x:Nd} (hx:ns[j]? =some x) (hk:x.kind≠2):TextsOf ns (L++[j]) T:=by
 refine ⟨fun t=> ?_,by simp only [List.length_append,List.length_singleton];have:=h.2.1;omega,h.2.2⟩
 rw [h.1 t]
 constructor
 ·rintro ⟨q,hq,r⟩
  exact ⟨q,List.mem_append_left _ hq,r⟩
 ·rintro ⟨q,hq,y,h1,h2,h3⟩
  rcases List.mem_append.1 hq with h4|h4
  ·exact ⟨q,h4,y,h1,h2,h3⟩
  ·rw [List.mem_singleton.1 h4,hx] at h1
   injection h1 with h1
   subst h1
   exact absurd h2 hk
theorem TextsOf.names {ns:List Nd} {i:Nat} {L:List Nat} {T:List Tx} (h:TextsOf ns L T) (hL:∀j,j∈L↔Reach ns i j):NamesAt ns i (sortS T):=by
 refine ⟨asc_sortS T,fun t=> ?_⟩
 rw [mem_sortS,h.1 t]
 exact ⟨fun ⟨j,hj,x,r⟩=>⟨j,x,(hL j).1 hj,r⟩,fun ⟨j,x,hj,r⟩=>⟨j,(hL j).2 hj,x,r⟩⟩
set_option maxHeartbeats 4000000 in
set_option maxRecDepth 100000 in
theorem rnames_inG (B g:Nat) (w:World) (ns:List Nd) (rv:Value) (h:GrR B g w ns rv) (i:Nat) (hi:i<ns.length):
  Calls Tryz.prog 44 #[.pointer (some ⟨g,0,none⟩),.int .i64 (i:Int)] w (NamesPost ns (i:Int) w):=by
 have HPA:=Lib.hid (rparts_in B g w ns rv h i hi)
 have hfew:=h.few
 have HOK:=Lib.hid h.ok
 have HVI:=Lib.hid (fun l (hl:NamesAt ns i l)=>NamesV.of_in hl hi)
 have HRL:=Lib.hid (fun j (hj:Reach ns i j)=>Nat.lt_of_le_of_lt (hj.le h.ok) hi)
 obtain ⟨A,c,hrv,hcl⟩:=h.row.read
 subst hrv
 have HCL:=Lib.hid hcl
 have HG:=Lib.hid h
 clear hcl h hi
 obtain ⟨n,hnn⟩:∃n,n=ns.length:=⟨_,rfl⟩
 have HN:=Lib.hid hnn
 rw [←hnn] at HG hfew
 clear hnn
 go_enter Tryz.func44,Tryz.ntmps44
 go_wp2_with fail
 refine HPA.out.mono ?_
 rintro e w1 ⟨v1,L,rfl,hL,hmem,hlen,hx1⟩
 have HX1:=Lib.hid hx1
 have HME:=Lib.hid hmem
 obtain ⟨AL,cL,rfl,hcL⟩:=hL.open
 have HCC:=Lib.hid hcL
 obtain ⟨k0,f0,hgz⟩:=(HG.out.keep hx1).blk.oneG
 obtain ⟨m,hm⟩:∃m,m=L.length:=⟨_,rfl⟩
 have HM:=Lib.hid hm
 rw [←hm] at hlen ⊢
 have hm4:m≤4096:=by have:=HN.out;omega
 have hwz:=hx1.size
 clear hL hcL hx1 hmem hm hlen HPA
 go_wp2_with fail
 go_loopw [5,12] (fun s5 s12 wr=>∃k:Nat,k≤m∧s12= .int .i64 (k:Int)∧∃T,OwnS w1.heap.size wr s5 T∧TextsOf ns (L.take k) T∧Ext w1 wr) (fun _ s12 _=>m-(intOf s12).toNat)
 case atStart=>exact ⟨0,Nat.zero_le _,rfl,[],OwnS.none_ _ _,by rw [List.take_zero];exact TextsOf.nil ns,Ext.refl w1⟩
 case round=>
  obtain ⟨k,hk,rfl,T,hown,htx,hx⟩:=hrel
  have HO:=Lib.hid hown
  have HX:=Lib.hid hx
  have hTl:T.length≤k:=by
   have h1:=htx.2.1
   rw [List.length_take] at h1
   omega
  obtain ⟨m5,A5,c5,rfl⟩:=hown.arr.shape
  have hgy:w1.heap.size≤wr.heap.size:=hx.size
  by_cases hlt:k<m
  ·have hkL:k<L.length:=by rw [←HM.out];exact hlt
   obtain ⟨bL,oL,rfl,hbL,hcell⟩:=HCC.out (by omega)
   have z1:=(hx.cell hbL).trans (hcell k hkL)
   have hjm:L.getD k 0∈L:=by rw [getD_ltB _ _ hkL];exact List.getElem_mem hkL
   have htk:L.take (k+1)=L.take k++[L.getD k 0]:=by rw [List.take_succ_eq_append_getElem hkL,getD_ltB _ _ hkL]
   have hjn:=HRL.out _ ((HME.out _).1 hjm)
   generalize L.getD k 0=j at *
   have hxj:ns[j]? =some ns[j]:=List.getElem?_eq_getElem hjn
   have hok:=HOK.out.2 j _ hxj
   have HAD:=Lib.hid (fun hk2=>htx.add hxj hk2 hok.text)
   have HSK:=Lib.hid (fun hk2=>htx.skip hxj hk2)
   rw [←htk] at HAD HSK
   obtain ⟨gb,o,rfl,hgw,hc⟩:=HCL.out (by omega)
   obtain ⟨p0,p1,p2,p3,p4⟩:=hc j hjn
   have hxx:=HX1.out.trans hx
   rw [←hxx.cell hgw] at p0 p1 p2 p3 p4
   have hj0:(0:Int)≤(j:Int):=by omega
   have hjn2:(j:Int)<(n:Int):=by have:=HN.out;omega
   have hk0:(0:Int)≤(k:Int):=by omega
   have hkm:(k:Int)<(m:Int):=by omega
   have hwk:IntKind.i64.wrap ((k:Int)+1)=(k:Int)+1:=IntWalk.i64_in _ (by omega)
   obtain ⟨k0,f0,hgz⟩:=(HG.out.keep hxx).blk.oneG
   generalize ns[j]=x at *
   clear hok hxj hjn hc hcell hxx hjm htk hown htx hx
   obtain ⟨y0,y1,y2,y3,y4⟩:=x
   simp only at p0 p1 p2 p3 p4 HAD HSK
   obtain ⟨tb,htb⟩:∃tb:ByteArray,tb=⟨y4.toArray⟩:=⟨_,rfl⟩
   have hst:str y4= .string tb:=by rw [htb];rfl
   have HFR:Hid (ArrS (wr.alloc (.cells #[.string tb] 9)) (.slice (some ⟨wr.heap.size,0,none⟩) 1 1) [y4]):=Lib.hid (by
    rw [←hst]
    exact ArrS.fresh1 wr y4)
   rw [hst] at p4
   clear hst htb
   have HLM:Hid (T.length+[y4].length≤2147483648):=Lib.hid (by rw [List.length_singleton];omega)
   by_cases h2:y0=2
   ·subst h2
    have HAE:=Lib.hid (HAD.out rfl)
    go_wp2_with (at_builtin;go_must (refine wpList_appendS (B:=w1.heap.size) rfl _ _ rfl rfl (HO.out.ext ((Ext.refl _).alloc _)) rfl HFR.out HLM.out (by simp;omega) ?_;intro v' w' hown' hgr hb1;have HE:=Lib.hid (And.intro hown' ((HX.out.alloc _).more hb1));clear hown' hgr hb1))
    go_roundw
    case rel=>exact ⟨k+1,hlt,by go_num,_,HE.out.1,HAE.out,HE.out.2⟩
    case measure=>simp [intOf];omega
   ·have hb:(y0 == 2)=false:=by rw [beq_eq_false_iff_ne];exact h2
    have HSE:=Lib.hid (HSK.out h2)
    clear h2
    go_wp2_with fail
    go_roundw
    case rel=>exact ⟨k+1,hlt,by go_num,T,HO.out,HSE.out,HX.out⟩
    case measure=>simp [intOf];omega
  ·obtain rfl:k=m:=by omega
   have htx2:TextsOf ns L T:=by
    have h:=htx
    rw [HM.out,List.take_length] at h
    exact h
   have HNA:=Lib.hid (HVI.out _ (htx2.names HME.out))
   have HTL:=Lib.hid (fun t ht=>Nat.le_trans (htx2.2.2 t ht) (show 400≤1073741824 by decide))
   have hsl:=sortS_len T
   have HXX:=Lib.hid (HX1.out.trans hx)
   clear hown htx htx2 hx
   go_wp2_with fail
   refine (sorted_any wr _ T HO.out.arr (by omega) HTL.out).mono ?_
   rintro e w5 ⟨v5,rfl,ho5,hx5⟩
   have HE:=Lib.hid (And.intro ho5.arr (HXX.out.trans hx5))
   clear ho5 hx5
   go_wp2_with fail
   go_ret
   exact ⟨v5,_,rfl,HE.out.1,HNA.out,by omega,HE.out.2⟩
set_option maxHeartbeats 4000000 in
set_option maxRecDepth 100000 in
theorem rnames_anyG (B g:Nat) (w:World) (ns:List Nd) (rv:Value) (h:GrR B g w ns rv) (i:Int):
  Calls Tryz.prog 44 #[.pointer (some ⟨g,0,none⟩),.int .i64 i] w (NamesPost ns i w):=by
 by_cases hi:0≤i∧i<(ns.length:Int)
 ·obtain ⟨k,rfl⟩:∃k:Nat,(k:Int)=i:=⟨i.toNat,by omega⟩
  exact rnames_inG B g w ns rv h k (by omega)
 have HO:=Lib.hid (NamesV.out (ns:=ns) (i:=i) (by omega))
 have HHA:=Lib.hid (has_any B g w ns rv h i)
 rw [decide_eq_false hi] at HHA
 have HPA:Hid (Calls Tryz.prog 62 #[.pointer (some ⟨g,0,none⟩),.int .i64 i] w fun e w'=>e= .returned (.slice none 0 0)∧Ext w w'):=Lib.hid (by
  clear h hi HO
  go_enter Tryz.func62,Tryz.ntmps62
  go_wp2_with fail
  refine HHA.out.mono ?_
  rintro e w1 ⟨rfl,hx1⟩
  have HX1:=Lib.hid hx1
  clear hx1
  go_wp2_with fail
  go_ret
  exact ⟨rfl,HX1.out⟩)
 clear h hi HHA
 go_enter Tryz.func44,Tryz.ntmps44
 go_wp2_with fail
 refine HPA.out.mono ?_
 rintro e w1 ⟨rfl,hx1⟩
 have HX1:=Lib.hid hx1
 clear hx1
 go_wp2_with fail
 go_loopw [5,12] (fun s5 s12 wr=>s5= .slice none 0 0∧s12= .int .i64 0∧Ext w1 wr) (fun _ s12 _=>0-(intOf s12).toNat)
 case atStart=>exact ⟨rfl,rfl,Ext.refl w1⟩
 case round=>
  obtain ⟨rfl,rfl,hx⟩:=hrel
  have HX:=Lib.hid (HX1.out.trans hx)
  clear hx
  have HTL:Hid (∀t∈([]:List Tx),t.length≤1073741824):=Lib.hid (fun t ht=>by cases ht)
  go_wp2_with fail
  refine (sorted_any wr _ [] (OwnS.none_ wr.heap.size wr).arr (by decide) HTL.out).mono ?_
  rintro e w5 ⟨v5,rfl,ho5,hx5⟩
  have HE:=Lib.hid (And.intro ho5.arr (HX.out.trans hx5))
  clear ho5 hx5
  go_wp2_with fail
  go_ret
  exact ⟨v5,_,rfl,HE.out.1,HO.out,by decide,HE.out.2⟩
end Big
end Go.Proofs.YtaccjdbbkmhanaaGreatDoor
namespace Go.Proofs.YtaccjdbbkmhanaaGreatDoor
namespace Big
open Go.RowKit
set_option maxHeartbeats 4000000 in
set_option maxRecDepth 100000 in
theorem rfits_any (B g:Nat) (w:World) (ns:List Nd) (rv:Value) (h:GrR B g w ns rv) (x:Nd) (hx:NdOk ns.length x):
  Calls Tryz.prog 45 #[.pointer (some ⟨g,0,none⟩),ndV x] w fun e w'=>e= .returned (.bool true)∧Ext w w':=by
 have HPL:=Lib.hid (fun W=>plain_any W x (by have:=hx.text;omega))
 rw [hx.plain] at HPL
 have HOP:=Lib.hid (fun W=>operands_any W x.kind)
 rw [hx.oper] at HOP
 have HAR:=Lib.hid (fun W=>rargs_any W x hx)
 have hlt:=hx.args_lt
 have HHA:=Lib.hid (fun W h (a:Nat) (ha:a<ns.length)=>(decide_eq_true (⟨by omega,by omega⟩:0≤(a:Int)∧(a:Int)<(ns.length:Int))) ▸ has_any B g W ns rv h (a:Int))
 have HG:=Lib.hid h
 have hal:=hx.args_len
 have hz1:(argsG x).length<1→x.a=0:=by
  intro hl
  rcases hx with ⟨k,t,rfl,ho⟩|⟨k,n,j,rfl,ho,hj⟩|⟨k,j,q,rfl,hk,hj,hq⟩
  ·rfl
  ·rw [argsG_un ho] at hl;simp at hl
  ·rw [argsG_bin hk] at hl;simp at hl
 have hz2:(argsG x).length<2→x.b=0:=by
  intro hl
  rcases hx with ⟨k,t,rfl,ho⟩|⟨k,n,j,rfl,ho,hj⟩|⟨k,j,q,rfl,hk,hj,hq⟩
  ·rfl
  ·rfl
  ·rw [argsG_bin hk] at hl;simp at hl
 have HLT:Hid (∀i,i<(argsG x).length→(argsG x).getD i 0<ns.length):=Lib.hid (fun i hi=>by
  rw [List.getD_eq_getElem?_getD,List.getElem?_eq_getElem hi]
  exact hlt _ (List.getElem_mem hi))
 clear hlt hx
 generalize argsG x=zs at *
 obtain ⟨k,a,d,n,t⟩:=x
 simp only [ndV] at HPL HOP HAR hz1 hz2 ⊢
 obtain ⟨s,hs⟩:∃s:ByteArray,s=⟨t.toArray⟩:=⟨_,rfl⟩
 have hst:str t= .string s:=by rw [hs];rfl
 rw [hst] at HPL HAR ⊢
 clear hs hst
 obtain ⟨A,c,rfl⟩:=h.row.shape
 clear h
 have HB1:=Lib.hid (Blk.new w 50 #[.int .i64 k,.int .i64 a,.int .i64 d,.int .i64 n,.string s])
 have HX1:=Lib.hid ((Ext.refl w).alloc (.cells #[.int .i64 k,.int .i64 a,.int .i64 d,.int .i64 n,.string s] 50))
 obtain ⟨w1,hw1⟩:∃w1,w1=w.alloc (.cells #[.int .i64 k,.int .i64 a,.int .i64 d,.int .i64 n,.string s] 50):=⟨_,rfl⟩
 rw [←hw1] at HB1 HX1
 obtain ⟨q0,q1,q2,q3,q4⟩:=HB1.out.five
 obtain ⟨m,hm⟩:∃m,m=zs.length:=⟨_,rfl⟩
 rw [←hm] at HOP hz1 hz2 hal HLT
 have HMZ:=Lib.hid hm
 clear hm
 have h3:(m=0∧a=0∧d=0)∨(m=1∧d=0)∨m=2:=by
  have:m=0∨m=1∨m=2:=by omega
  rcases this with h|h|h
  ·exact .inl ⟨h,hz1 (by omega),hz2 (by omega)⟩
  ·exact .inr (.inl ⟨h,hz2 (by omega)⟩)
  ·exact .inr (.inr h)
 clear hz1 hz2 hal
 rcases h3 with ⟨rfl,rfl,rfl⟩|⟨rfl,rfl⟩|rfl
 ·rw [show ((0:Nat):Int)=0 from rfl] at HOP
  go_enter Tryz.func45,Tryz.ntmps45
  go_upto_region 1 with fail
  rw [←hw1]
  clear hw1
  go_wp2_with fail
  refine (HOP.out _).mono ?_
  rintro e w2 ⟨rfl,rfl⟩
  go_wp2_with fail
  refine (HPL.out _).mono ?_
  rintro e w2 ⟨rfl,hx2⟩
  have HX2:=Lib.hid (HX1.out.trans hx2)
  have HB2:=Lib.hid (HB1.out.ext hx2)
  clear q0 q1 q2 q3 q4 hx2
  obtain ⟨q0,q1,q2,q3,q4⟩:=HB2.out.five
  go_wp2_with fail
  refine (HAR.out _).mono ?_
  rintro e w3 ⟨A3,c3,rfl,hx3,hc3⟩
  have HX3:=Lib.hid (HX2.out.trans hx3)
  have HC3:=Lib.hid hc3
  rw [←HMZ.out] at HC3 ⊢
  clear q0 q1 q2 q3 q4 hx3 hc3
  go_wp2_with fail
  go_loopw [39] (fun s39 wr=>∃i:Nat,i≤0∧s39= .int .i64 (i:Int)∧Ext w3 wr) (fun s39 _=>0-(intOf s39).toNat)
  case atStart=>exact ⟨0,Nat.zero_le _,rfl,Ext.refl w3⟩
  case round=>
   obtain ⟨i,hi,rfl,hx⟩:=hrel
   have HX:=Lib.hid hx
   have hwi:IntKind.i64.wrap ((i:Int)+1)=(i:Int)+1:=IntWalk.i64_in _ (by omega)
   by_cases hlt:i<0
   ·obtain ⟨b3,rfl,hb0,hb1,hcc⟩:=HC3.out (by omega)
    have hcell:=(hx.cell hb1).trans (hcc i hlt)
    have hz:=HLT.out i hlt
    generalize zs.getD i 0=za at *
    have hi0:(0:Int)≤(i:Int):=by omega
    have hil:(i:Int)<0:=by omega
    clear hx hcc
    go_wp2_with fail
    refine (HHA.out _ (HG.out.keep (HX3.out.trans HX.out)) za hz).mono ?_
    rintro e w4 ⟨rfl,hx4⟩
    have HX4:=Lib.hid (HX.out.trans hx4)
    clear hx4 hcell
    go_wp2_with fail
    go_roundw
    case rel=>exact ⟨i+1,hlt,by go_num,HX4.out⟩
    case measure=>simp [intOf];omega
   ·go_wp2_with fail
    go_ret
    exact ⟨rfl,HX3.out.trans HX.out⟩
 ·rw [show ((1:Nat):Int)=1 from rfl] at HOP
  go_enter Tryz.func45,Tryz.ntmps45
  go_upto_region 1 with fail
  rw [←hw1]
  clear hw1
  go_wp2_with fail
  refine (HOP.out _).mono ?_
  rintro e w2 ⟨rfl,rfl⟩
  go_wp2_with fail
  refine (HPL.out _).mono ?_
  rintro e w2 ⟨rfl,hx2⟩
  have HX2:=Lib.hid (HX1.out.trans hx2)
  have HB2:=Lib.hid (HB1.out.ext hx2)
  clear q0 q1 q2 q3 q4 hx2
  obtain ⟨q0,q1,q2,q3,q4⟩:=HB2.out.five
  go_wp2_with fail
  refine (HAR.out _).mono ?_
  rintro e w3 ⟨A3,c3,rfl,hx3,hc3⟩
  have HX3:=Lib.hid (HX2.out.trans hx3)
  have HC3:=Lib.hid hc3
  rw [←HMZ.out] at HC3 ⊢
  clear q0 q1 q2 q3 q4 hx3 hc3
  go_wp2_with fail
  go_loopw [39] (fun s39 wr=>∃i:Nat,i≤1∧s39= .int .i64 (i:Int)∧Ext w3 wr) (fun s39 _=>1-(intOf s39).toNat)
  case atStart=>exact ⟨0,Nat.zero_le _,rfl,Ext.refl w3⟩
  case round=>
   obtain ⟨i,hi,rfl,hx⟩:=hrel
   have HX:=Lib.hid hx
   have hwi:IntKind.i64.wrap ((i:Int)+1)=(i:Int)+1:=IntWalk.i64_in _ (by omega)
   by_cases hlt:i<1
   ·obtain ⟨b3,rfl,hb0,hb1,hcc⟩:=HC3.out (by omega)
    have hcell:=(hx.cell hb1).trans (hcc i hlt)
    have hz:=HLT.out i hlt
    generalize zs.getD i 0=za at *
    have hi0:(0:Int)≤(i:Int):=by omega
    have hil:(i:Int)<1:=by omega
    clear hx hcc
    go_wp2_with fail
    refine (HHA.out _ (HG.out.keep (HX3.out.trans HX.out)) za hz).mono ?_
    rintro e w4 ⟨rfl,hx4⟩
    have HX4:=Lib.hid (HX.out.trans hx4)
    clear hx4 hcell
    go_wp2_with fail
    go_roundw
    case rel=>exact ⟨i+1,hlt,by go_num,HX4.out⟩
    case measure=>simp [intOf];omega
   ·go_wp2_with fail
    go_ret
    exact ⟨rfl,HX3.out.trans HX.out⟩
 ·rw [show ((2:Nat):Int)=2 from rfl] at HOP
  go_enter Tryz.func45,Tryz.ntmps45
  go_upto_region 1 with fail
  rw [←hw1]
  clear hw1
  go_wp2_with fail
  refine (HOP.out _).mono ?_
  rintro e w2 ⟨rfl,rfl⟩
  go_wp2_with fail
  refine (HPL.out _).mono ?_
  rintro e w2 ⟨rfl,hx2⟩
  have HX2:=Lib.hid (HX1.out.trans hx2)
  have HB2:=Lib.hid (HB1.out.ext hx2)
  clear q0 q1 q2 q3 q4 hx2
  obtain ⟨q0,q1,q2,q3,q4⟩:=HB2.out.five
  go_wp2_with fail
  refine (HAR.out _).mono ?_
  rintro e w3 ⟨A3,c3,rfl,hx3,hc3⟩
  have HX3:=Lib.hid (HX2.out.trans hx3)
  have HC3:=Lib.hid hc3
  rw [←HMZ.out] at HC3 ⊢
  clear q0 q1 q2 q3 q4 hx3 hc3
  go_wp2_with fail
  go_loopw [39] (fun s39 wr=>∃i:Nat,i≤2∧s39= .int .i64 (i:Int)∧Ext w3 wr) (fun s39 _=>2-(intOf s39).toNat)
  case atStart=>exact ⟨0,Nat.zero_le _,rfl,Ext.refl w3⟩
  case round=>
   obtain ⟨i,hi,rfl,hx⟩:=hrel
   have HX:=Lib.hid hx
   have hwi:IntKind.i64.wrap ((i:Int)+1)=(i:Int)+1:=IntWalk.i64_in _ (by omega)
   by_cases hlt:i<2
   ·obtain ⟨b3,rfl,hb0,hb1,hcc⟩:=HC3.out (by omega)
    have hcell:=(hx.cell hb1).trans (hcc i hlt)
    have hz:=HLT.out i hlt
    generalize zs.getD i 0=za at *
    have hi0:(0:Int)≤(i:Int):=by omega
    have hil:(i:Int)<2:=by omega
    clear hx hcc
    go_wp2_with fail
    refine (HHA.out _ (HG.out.keep (HX3.out.trans HX.out)) za hz).mono ?_
    rintro e w4 ⟨rfl,hx4⟩
    have HX4:=Lib.hid (HX.out.trans hx4)
    clear hx4 hcell
    go_wp2_with fail
    go_roundw
    case rel=>exact ⟨i+1,hlt,by go_num,HX4.out⟩
    case measure=>simp [intOf];omega
   ·go_wp2_with fail
    go_ret
    exact ⟨rfl,HX3.out.trans HX.out⟩
end Big
end Go.Proofs.YtaccjdbbkmhanaaGreatDoor
namespace Go.Proofs.YtaccjdbbkmhanaaGreatDoor
namespace Big
open Go.RowKit
def findV (x:Nd) (ns:List Nd):Int:=if x∈ns then (placeG x ns:Int) else-1
theorem findV_at {x:Nd} {ns:List Nd} {i:Nat} (hi:i<ns.length) (hx:ns[i]=x) (h:∀j (hj:j<ns.length),j<i→ns[j]≠x):findV x ns=(i:Int):=by
 unfold findV
 rw [if_pos (by rw [←hx];exact List.getElem_mem hi),placeG_first hi hx h]
theorem findV_not {x:Nd} {ns:List Nd} (h:∀j (hj:j<ns.length),j<ns.length→ns[j]≠x):findV x ns= -1:=by
 unfold findV
 rw [if_neg]
 intro hm
 obtain ⟨j,hj,he⟩:=List.getElem_of_mem hm
 exact h j hj hj he
theorem find_on {x:Nd} {ns:List Nd} {i:Nat} (hi:i<ns.length) (h:∀j (hj:j<ns.length),j<i→ns[j]≠x) (hx:ns[i]≠x):∀j (hj:j<ns.length),j<i+1→ns[j]≠x:=by
 intro j hj hji
 rcases Nat.lt_or_ge j i with h1|h1
 ·exact h j hj h1
 ·obtain rfl:j=i:=by omega
  exact hx
set_option maxHeartbeats 8000000 in
set_option maxRecDepth 100000 in
theorem rfind_any (B g:Nat) (w:World) (ns:List Nd) (rv:Value) (h:GrR B g w ns rv) (x:Nd):
  Calls Tryz.prog 46 #[.pointer (some ⟨g,0,none⟩),ndV x] w fun e w'=>e= .returned (.int .i64 (findV x ns))∧Ext w w':=by
 have HFA:=Lib.hid (fun i hi hx h=>findV_at (x:=x) (ns:=ns) (i:=i) hi hx h)
 have HFN:=Lib.hid (fun h=>findV_not (x:=x) (ns:=ns) h)
 have HON:=Lib.hid (fun i hi h hx=>find_on (x:=x) (ns:=ns) (i:=i) hi h hx)
 have hfew:=h.few
 obtain ⟨A,c,hrv,hcl⟩:=h.row.read
 subst hrv
 have HCL:=Lib.hid hcl
 have HG:=Lib.hid h
 obtain ⟨z0,z1,z2,z3,z4⟩:=x
 simp only [ndV]
 obtain ⟨tz,htz0⟩:∃tz:ByteArray,tz=⟨z4.toArray⟩:=⟨_,rfl⟩
 have hst:str z4= .string tz:=by rw [htz0];rfl
 rw [hst]
 have htz:tz.toList=z4:=by rw [htz0];exact ByteArray.toList_mk _
 have HTZ:=Lib.hid htz
 clear hst htz hcl h htz0
 have HB1:=Lib.hid (Blk.new w 50 #[.int .i64 z0,.int .i64 z1,.int .i64 z2,.int .i64 z3,.string tz])
 have HX1:=Lib.hid ((Ext.refl w).alloc (.cells #[.int .i64 z0,.int .i64 z1,.int .i64 z2,.int .i64 z3,.string tz] 50))
 obtain ⟨w1,hw1⟩:∃w1,w1=w.alloc (.cells #[.int .i64 z0,.int .i64 z1,.int .i64 z2,.int .i64 z3,.string tz] 50):=⟨_,rfl⟩
 rw [←hw1] at HB1 HX1
 obtain ⟨n,hnn⟩:∃n,n=ns.length:=⟨_,rfl⟩
 have HN:=Lib.hid hnn
 rw [←hnn] at hfew
 rw [←hnn] at HG
 have hk0:=(HG.out.keep HX1.out).blk.cell 0
 go_enter Tryz.func46,Tryz.ntmps46
 go_upto_region 1 with fail
 rw [←hw1]
 clear hw1 hnn
 obtain ⟨k0,_,hgz⟩:=(HG.out.keep HX1.out).blk.oneG
 clear hk0
 go_wp2_with fail
 go_loopw [12] (fun s12 wr=>∃i:Nat,i≤n∧s12= .int .i64 (i:Int)∧Hid (∀j (hj:j<ns.length),j<i→ns[j]≠⟨z0,z1,z2,z3,z4⟩)∧Ext w1 wr) (fun s12 _=>n-(intOf s12).toNat)
 case atStart=>exact ⟨0,Nat.zero_le _,rfl,Lib.hid (fun j _ hj=>by omega),Ext.refl w1⟩
 case round=>
  obtain ⟨i,hi,rfl,HAL,hx⟩:=hrel
  have HX:=Lib.hid hx
  have hwi:IntKind.i64.wrap ((i:Int)+1)=(i:Int)+1:=IntWalk.i64_in _ (by omega)
  by_cases hlt:i<n
  ·have hit:i<ns.length:=by rw [←HN.out];exact hlt
   obtain ⟨gb,o,rfl,hgw,hc⟩:=HCL.out (by have:=HN.out;omega)
   obtain ⟨p0,p1,p2,p3,p4⟩:=hc i hit
   have hxx:=HX1.out.trans hx
   rw [←hxx.cell hgw] at p0 p1 p2 p3 p4
   have hgr:gb<wr.heap.size:=Nat.lt_of_lt_of_le hgw hxx.size
   have HST:=Lib.hid (fun he=>HFA.out i hit he HAL.out)
   have HNG:=Lib.hid (fun he=>HON.out i hit HAL.out he)
   have hi0:(0:Int)≤(i:Int):=by omega
   have hil:(i:Int)<(n:Int):=by omega
   clear hc hxx hx
   generalize ns[i]=x at *
   clear hit
   obtain ⟨y0,y1,y2,y3,y4⟩:=x
   simp only at p0 p1 p2 p3 p4
   have hsy:str y4= .string ⟨y4.toArray⟩:=rfl
   rw [hsy] at p4
   have hty:(⟨y4.toArray⟩:ByteArray).toList=y4:=ByteArray.toList_mk _
   have HTY:=Lib.hid hty
   clear hsy hty
   have HYB:=Lib.hid (Blk.new wr 50 #[.int .i64 y0,.int .i64 y1,.int .i64 y2,.int .i64 y3,.string ⟨y4.toArray⟩])
   have HYX:=Lib.hid ((Ext.refl wr).alloc (.cells #[.int .i64 y0,.int .i64 y1,.int .i64 y2,.int .i64 y3,.string ⟨y4.toArray⟩] 50))
   obtain ⟨wy,hwy⟩:∃wy,wy=wr.alloc (.cells #[.int .i64 y0,.int .i64 y1,.int .i64 y2,.int .i64 y3,.string ⟨y4.toArray⟩] 50):=⟨_,rfl⟩
   rw [←hwy] at HYB HYX
   go_upto_region 4 with fail
   rw [←hwy]
   clear hwy p0 p1 p2 p3 p4
   have HXY:=Lib.hid (HX.out.trans HYX.out)
   obtain ⟨q0,q1,q2,q3,q4⟩:=(HB1.out.ext HXY.out).five
   obtain ⟨r0,r1,r2,r3,r4⟩:=HYB.out.five
   by_cases e0:y0=z0
   case neg=>
    have b0:(y0 == z0)=false:=by rw [beq_eq_false_iff_ne];exact e0
    have c0:(y0 != z0)=true:=by rw [bne_iff_ne];exact e0
    have HN2:=Lib.hid (HNG.out (fun he=>e0 (by injection he)))
    clear e0 HST HNG
    generalize (⟨y4.toArray⟩:ByteArray)=ty at *
    go_wp2_with fail
    go_roundw
    case rel=>exact ⟨i+1,by omega,by go_num,HN2.out,HXY.out⟩
    case measure=>simp [intOf];omega
   case pos=>
    subst e0
    by_cases e1:y1=z1
    case neg=>
     have b1:(y1 == z1)=false:=by rw [beq_eq_false_iff_ne];exact e1
     have c1:(y1 != z1)=true:=by rw [bne_iff_ne];exact e1
     have HN2:=Lib.hid (HNG.out (fun he=>e1 (by injection he)))
     clear e1 HST HNG
     generalize (⟨y4.toArray⟩:ByteArray)=ty at *
     go_wp2_with fail
     go_roundw
     case rel=>exact ⟨i+1,by omega,by go_num,HN2.out,HXY.out⟩
     case measure=>simp [intOf];omega
    case pos=>
     subst e1
     by_cases e2:y2=z2
     case neg=>
      have b2:(y2 == z2)=false:=by rw [beq_eq_false_iff_ne];exact e2
      have c2:(y2 != z2)=true:=by rw [bne_iff_ne];exact e2
      have HN2:=Lib.hid (HNG.out (fun he=>e2 (by injection he)))
      clear e2 HST HNG
      generalize (⟨y4.toArray⟩:ByteArray)=ty at *
      go_wp2_with fail
      go_roundw
      case rel=>exact ⟨i+1,by omega,by go_num,HN2.out,HXY.out⟩
      case measure=>simp [intOf];omega
     case pos=>
      subst e2
      by_cases e3:y3=z3
      case neg=>
       have b3:(y3 == z3)=false:=by rw [beq_eq_false_iff_ne];exact e3
       have c3:(y3 != z3)=true:=by rw [bne_iff_ne];exact e3
       have HN2:=Lib.hid (HNG.out (fun he=>e3 (by injection he)))
       clear e3 HST HNG
       generalize (⟨y4.toArray⟩:ByteArray)=ty at *
       go_wp2_with fail
       go_roundw
       case rel=>exact ⟨i+1,by omega,by go_num,HN2.out,HXY.out⟩
       case measure=>simp [intOf];omega
      case pos=>
       subst e3
       by_cases e4:y4=z4
       case neg=>
        have b4:((⟨y4.toArray⟩:ByteArray).toList == (tz:ByteArray).toList)=false:=by rw [HTY.out,HTZ.out,beq_eq_false_iff_ne];exact e4
        have c4:((⟨y4.toArray⟩:ByteArray).toList != (tz:ByteArray).toList)=true:=by rw [HTY.out,HTZ.out,bne_iff_ne];exact e4
        have HN2:=Lib.hid (HNG.out (fun he=>e4 (by injection he)))
        clear e4 HST HNG
        generalize (⟨y4.toArray⟩:ByteArray)=ty at *
        go_wp2_with fail
        go_roundw
        case rel=>exact ⟨i+1,by omega,by go_num,HN2.out,HXY.out⟩
        case measure=>simp [intOf];omega
       case pos=>
        subst e4
        have b4:((⟨y4.toArray⟩:ByteArray).toList == (tz:ByteArray).toList)=true:=by rw [HTY.out,HTZ.out,beq_self_eq_true]
        have HS2:=Lib.hid (HST.out rfl)
        generalize (⟨y4.toArray⟩:ByteArray)=ty at *
        clear HST HNG
        go_wp2_with fail
        go_ret
        exact ⟨by rw [HS2.out];rfl,HX1.out.trans HXY.out⟩
  ·obtain rfl:i=n:=by omega
   have HE:=Lib.hid (HFN.out (fun j hj _=>HAL.out j hj (by rw [HN.out];exact hj)))
   clear hx
   go_wp2_with fail
   go_ret
   exact ⟨by rw [HE.out];rfl,HX1.out.trans HX.out⟩
end Big
end Go.Proofs.YtaccjdbbkmhanaaGreatDoor
namespace Go.Proofs.YtaccjdbbkmhanaaGreatDoor
namespace Big
open Go.RowKit
def RPutPost (B g:Nat) (ns:List Nd) (rv:Value) (x:Nd) (w:World) (e:Ending) (w':World):Prop:=
 ∃rv',e= .returned (.tuple #[.int .i64 ((putG ns x).1:Int),.int .i64 0])∧KG g g rv rv' w w'∧GrR B g w' (putG ns x).2 rv'
set_option maxHeartbeats 4000000 in
set_option maxRecDepth 100000 in
theorem rput_old (B g:Nat) (w:World) (ns:List Nd) (rv:Value) (h:GrR B g w ns rv) (x:Nd) (hx:NdOk ns.length x) (hin:x∈ns):
  Calls Tryz.prog 22 #[.pointer (some ⟨g,0,none⟩),ndV x] w (RPutPost B g ns rv x w):=by
 have HFI:=Lib.hid (fun W h=>rfits_any B g W ns rv h x hx)
 have HFN:=Lib.hid (fun W h=>rfind_any B g W ns rv h x)
 have hfv:findV x ns=(placeG x ns:Int):=by unfold findV;rw [if_pos hin]
 rw [hfv] at HFN
 have HG:=Lib.hid h
 have hp1:(putG ns x).1=placeG x ns:=by unfold putG;rw [if_pos hin]
 have hp2:(putG ns x).2=ns:=by unfold putG;rw [if_pos hin]
 have HP1:=Lib.hid hp1
 have HP2:=Lib.hid hp2
 clear hp1 hp2 hin hfv hx
 obtain ⟨A,c,rfl⟩:=h.row.shape
 clear h
 generalize hpl:placeG x ns=pl at *
 clear hpl
 obtain ⟨k,a,d,n,t⟩:=x
 simp only [ndV] at HFI HFN ⊢
 obtain ⟨s,hs⟩:∃s:ByteArray,s=⟨t.toArray⟩:=⟨_,rfl⟩
 have hst:str t= .string s:=by rw [hs];rfl
 rw [hst] at HFI HFN ⊢
 clear hs hst
 have HB1:=Lib.hid (Blk.new w 50 #[.int .i64 k,.int .i64 a,.int .i64 d,.int .i64 n,.string s])
 have HX1:=Lib.hid ((Ext.refl w).alloc (.cells #[.int .i64 k,.int .i64 a,.int .i64 d,.int .i64 n,.string s] 50))
 obtain ⟨w1,hw1⟩:∃w1,w1=w.alloc (.cells #[.int .i64 k,.int .i64 a,.int .i64 d,.int .i64 n,.string s] 50):=⟨_,rfl⟩
 rw [←hw1] at HB1 HX1
 obtain ⟨q0,q1,q2,q3,q4⟩:=HB1.out.five
 have hpl0:(0:Int)≤(pl:Int):=by omega
 go_enter Tryz.func22,Tryz.ntmps22
 go_upto_region 1 with fail
 rw [←hw1]
 clear hw1
 go_wp2_with fail
 refine (HFI.out w1 (HG.out.keep HX1.out)).mono ?_
 rintro e w2 ⟨rfl,hx2⟩
 have HX2:=Lib.hid (HX1.out.trans hx2)
 have HB2:=Lib.hid (HB1.out.ext hx2)
 clear q0 q1 q2 q3 q4 hx2
 obtain ⟨q0,q1,q2,q3,q4⟩:=HB2.out.five
 go_wp2_with fail
 refine (HFN.out w2 (HG.out.keep HX2.out)).mono ?_
 rintro e w3 ⟨rfl,hx3⟩
 have HX3:=Lib.hid (HX2.out.trans hx3)
 clear q0 q1 q2 q3 q4 hx3
 go_wp2_with fail
 go_ret2
 refine ⟨_,by rw [HP1.out];rfl,KG.of_ext HX3.out,?_⟩
 rw [HP2.out]
 exact HG.out.keep HX3.out
set_option maxHeartbeats 4000000 in
set_option maxRecDepth 100000 in
theorem rput_new (B g:Nat) (w:World) (ns:List Nd) (rv:Value) (h:GrR B g w ns rv) (x:Nd) (hx:NdOk ns.length x) (hin:x∉ns) (hroom:ns.length<4096):
  Calls Tryz.prog 22 #[.pointer (some ⟨g,0,none⟩),ndV x] w (RPutPost B g ns rv x w):=by
 have HFI:=Lib.hid (fun W h=>rfits_any B g W ns rv h x hx)
 have HFN:=Lib.hid (fun W h=>rfind_any B g W ns rv h x)
 have hfv:findV x ns= -1:=by unfold findV;rw [if_neg hin]
 rw [hfv] at HFN
 have HG:=Lib.hid h
 have hp1:(putG ns x).1=ns.length:=by unfold putG;rw [if_neg hin]
 have hp2:(putG ns x).2=ns++[x]:=by unfold putG;rw [if_neg hin]
 have HOK:Hid (SoundG (ns++[x])):=Lib.hid (by rw [←hp2];exact h.ok.put hx)
 have HP1:=Lib.hid hp1
 have HP2:=Lib.hid hp2
 clear hp1 hp2 hin hfv hx
 have hlo:=h.lo
 have HA2:=Lib.hid h.apart2
 have hgz0:=h.lt
 obtain ⟨A,c,rfl⟩:=h.row.shape
 clear h
 obtain ⟨i0,hi,hz0,hz1,hz2⟩:=info_parts info_node
 obtain ⟨k,a,d,n,t⟩:=x
 simp only [ndV] at HFI HFN ⊢
 obtain ⟨s,hs⟩:∃s:ByteArray,s=⟨t.toArray⟩:=⟨_,rfl⟩
 have HTC:Hid (ndC ⟨k,a,d,n,t⟩=[.int .i64 k,.int .i64 a,.int .i64 d,.int .i64 n,.string s]):=Lib.hid (by rw [hs];rfl)
 have hst:str t= .string s:=by rw [hs];rfl
 rw [hst] at HFI HFN ⊢
 clear hs hst
 have HB1:=Lib.hid (Blk.new w 50 #[.int .i64 k,.int .i64 a,.int .i64 d,.int .i64 n,.string s])
 have HX1:=Lib.hid ((Ext.refl w).alloc (.cells #[.int .i64 k,.int .i64 a,.int .i64 d,.int .i64 n,.string s] 50))
 obtain ⟨w1,hw1⟩:∃w1,w1=w.alloc (.cells #[.int .i64 k,.int .i64 a,.int .i64 d,.int .i64 n,.string s] 50):=⟨_,rfl⟩
 have hs1:w1.heap.size=w.heap.size+1:=by rw [hw1];simp
 rw [←hw1] at HB1 HX1
 obtain ⟨q0,q1,q2,q3,q4⟩:=HB1.out.five
 have hd4:decide ((ns.length:Int)≥4096)=false:=decide_eq_false (by omega)
 have hd5:decide (4096≤(ns.length:Int))=false:=decide_eq_false (by omega)
 go_enter Tryz.func22,Tryz.ntmps22
 go_upto_region 1 with fail
 rw [←hw1]
 clear hw1
 go_wp2_with fail
 refine (HFI.out w1 (HG.out.keep HX1.out)).mono ?_
 rintro e w2 ⟨rfl,hx2⟩
 have HX2:=Lib.hid (HX1.out.trans hx2)
 have HB2:=Lib.hid (HB1.out.ext hx2)
 clear q0 q1 q2 q3 q4 hx2
 obtain ⟨q0,q1,q2,q3,q4⟩:=HB2.out.five
 go_wp2_with fail
 refine (HFN.out w2 (HG.out.keep HX2.out)).mono ?_
 rintro e wA ⟨rfl,hx3⟩
 have HXA:=Lib.hid (HX2.out.trans hx3)
 have HBA:=Lib.hid (HB2.out.ext hx3)
 have HGA:=Lib.hid (HG.out.keep HXA.out)
 have hsA:w.heap.size<wA.heap.size:=by have h1:=hx3.size;have h2:=HB2.out.lt;omega
 clear q0 q1 q2 q3 q4 hx3
 obtain ⟨q0,q1,q2,q3,q4⟩:=HBA.out.five
 obtain ⟨k0,f0,hgz⟩:=HGA.out.blk.oneG
 go_upto_region 8 with fail
 have HMID:Hid (∀w':World,(wA.alloc (.cells #[.int .i64 k,.int .i64 a,.int .i64 d,.int .i64 n,.string s] 50)).drew.grownBy w' (Value.slice A ns.length c).ownBlock→Blk w' g 46 #[.slice A ns.length c]∧wA.grownBy w' (Value.slice A ns.length c).ownBlock):=Lib.hid (fun w' hgr=>by
  have hgr2:wA.grownBy w' (Value.slice A ns.length c).ownBlock:=by
   refine ⟨hgr.os,hgr.tape,hgr.output,?_,fun i h1 h2=> ?_⟩
   ·have:=hgr.size
    simp only [World.size_drew,World.size_alloc] at this
    omega
   ·exact (hgr.block i (by simp only [World.size_drew,World.size_alloc];omega) h2).trans (Below.heap_alloc wA _ i h1)
  exact ⟨(hgr2.block g hgz (fun e=>HA2.out e.symm)).trans HGA.out.blk,hgr2⟩)
 have HC0:Hid (∀(j:Nat) (u:Value),[.int .i64 k,.int .i64 a,.int .i64 d,.int .i64 n,.string s][j]? =some u→(wA.alloc (.cells #[.int .i64 k,.int .i64 a,.int .i64 d,.int .i64 n,.string s] 50)).drew.cell? ((⟨wA.heap.size,0,none⟩:Addr).add j)=some u):=Lib.hid (fun j u hj=>by
  have h1:=(Blk.new wA 50 #[.int .i64 k,.int .i64 a,.int .i64 d,.int .i64 n,.string s]).drew.cell j
  have h2:(⟨wA.heap.size,0,none⟩:Addr).add j=⟨wA.heap.size,j,none⟩:=by
   unfold Addr.add
   split
   ·rename_i h;subst h;rfl
   ·simp
  rw [h2,h1,←hj]
  simp)
 have HRO:Hid ((wA.alloc (.cells #[.int .i64 k,.int .i64 a,.int .i64 d,.int .i64 n,.string s] 50)).drew.ownsRow B 50 5 (.slice A ns.length c) ns.length (ndsC ns)):=Lib.hid (ownsRow_below HGA.out.row (fun k _ hk=>Below.heap_alloc wA _ k hk))
 have HN1:Hid (ns.length+1≤maxLen):=Lib.hid (by unfold maxLen;omega)
 have HN2:Hid ((ns.length+1)*48≤140737488355328):=Lib.hid (by omega)
 have HN3:Hid (B≤(wA.alloc (.cells #[.int .i64 k,.int .i64 a,.int .i64 d,.int .i64 n,.string s] 50)).drew.heap.size):=Lib.hid (by simp only [World.size_drew,World.size_alloc];omega)
 go_region_law (refine step_append_lies _ rfl (.tmp 27) (.tmp 29) 25 rfl B 50 i0 _ 5 48 Tryz.underlying25 hi hz0 hz1 hz2 rfl (by decide) _ ns.length (ndsC ns) rfl HRO.out ⟨wA.heap.size,0,none⟩ 1 1 [.int .i64 k,.int .i64 a,.int .i64 d,.int .i64 n,.string s] rfl rfl HC0.out (by simp [Value.oneCell']) (by decide) HN1.out HN2.out HN3.out _ rfl ?_;intro g' c' w' hown hgr hat hlt;have HOW:=Lib.hid hown;have HM2:=Lib.hid (HMID.out w' hgr);have HAT:=Lib.hid hat;clear hown hgr hat;obtain ⟨m0,g0,hgz2⟩:=HM2.out.1.oneG)
 all_goals
  have hne1:g'≠g:=by
   rcases HAT.out with h4|h4
   ·exact fun e=>HA2.out (h4.trans (congrArg some e))
   ·simp only [World.size_drew,World.size_alloc] at h4
    omega
  have hf1:=HM2.out.1.set_ 0 (.slice (some ⟨g',0,none⟩) (ns.length+1) c')
  have hrow:=ownsRow_at (w':=w'.setCell ⟨g,0,none⟩ (.slice (some ⟨g',0,none⟩) (ns.length+1) c')) HOW.out (fun k hk=>Below.heap_setCell _ _ _ k (by
   simp only [Value.ownBlock,Option.some.injEq] at hk
   show k≠g
   omega))
  have hbl:∀k,k<w.heap.size→k≠g→(Value.slice A ns.length c).ownBlock≠some k→(w'.setCell ⟨g,0,none⟩ (.slice (some ⟨g',0,none⟩) (ns.length+1) c')).heap[k]? =w.heap[k]? :=fun k h1 h2 h3=>
   (Below.heap_setCell _ _ _ k h2).trans ((HM2.out.2.block k (by omega) (fun e=>h3 e.symm)).trans (HXA.out.block k h1))
  have hos:(w'.setCell ⟨g,0,none⟩ (.slice (some ⟨g',0,none⟩) (ns.length+1) c')).os=w.os∧(w'.setCell ⟨g,0,none⟩ (.slice (some ⟨g',0,none⟩) (ns.length+1) c')).tape=w.tape∧(w'.setCell ⟨g,0,none⟩ (.slice (some ⟨g',0,none⟩) (ns.length+1) c')).output=w.output∧wA.heap.size≤(w'.setCell ⟨g,0,none⟩ (.slice (some ⟨g',0,none⟩) (ns.length+1) c')).heap.size:=by
   have h2:=Below.setCell (Below.refl g w') (p:=⟨g,0,none⟩) (Nat.le_refl _) (.slice (some ⟨g',0,none⟩) (ns.length+1) c')
   have h4:=HM2.out.2
   exact ⟨h2.os.trans (h4.os.trans HXA.out.os),h2.tape.trans (h4.tape.trans HXA.out.tape),h2.output.trans (h4.output.trans HXA.out.output),Nat.le_trans h4.size h2.size⟩
  generalize (w'.setCell ⟨g,0,none⟩ (.slice (some ⟨g',0,none⟩) (ns.length+1) c'))=wB at *
  have HF1:=Lib.hid hf1
  have HROW:=Lib.hid hrow
  have HBL:=Lib.hid hbl
  have HOS:=Lib.hid hos
  clear q0 q1 q2 q3 q4 k0 f0 m0 g0 hrow hbl hos
  obtain ⟨k0,f0,hgz3⟩:=Blk.oneG hf1
  clear hf1
  have hw1:IntKind.i64.wrap ((ns.length:Int)+1-1)=(ns.length:Int):=by rw [IntKind.wrap_i64];omega
  have hw2:IntKind.i64.wrap (((ns.length+1:Nat):Int)-1)=(ns.length:Int):=by rw [IntKind.wrap_i64];omega
  go_wp2_with fail
  go_ret2
  have hzB:=HOS.out.2.2.2
  refine ⟨(.slice (some ⟨g',0,none⟩) (ns.length+1) c'),by rw [HP1.out];rfl,⟨HOS.out.1,HOS.out.2.1,HOS.out.2.2.1,by omega,fun k h1 h2 h3 h4=>HBL.out k h1 h2 h4,fun j hj=> ?_⟩,?_⟩
  ·have h5:g'=j:=Option.some.inj hj
   rcases HAT.out with h4|h4
   ·exact .inl (h4.trans (congrArg some h5))
   ·simp only [World.size_drew,World.size_alloc] at h4
    exact .inr (by omega)
  ·rw [HP2.out]
   refine ⟨HF1.out,?_,hlo,HOK.out,by simp only [List.length_append,List.length_singleton];omega⟩
   unfold OwnNd
   rw [ndsC_append,ndsC_one,HTC.out,List.length_append,List.length_singleton]
   exact HROW.out
theorem rput_any (B g:Nat) (w:World) (ns:List Nd) (rv:Value) (h:GrR B g w ns rv) (x:Nd) (hx:NdOk ns.length x) (hroom:ns.length<4096):
  Calls Tryz.prog 22 #[.pointer (some ⟨g,0,none⟩),ndV x] w (RPutPost B g ns rv x w):=by
 by_cases hin:x∈ns
 ·exact rput_old B g w ns rv h x hx hin
 ·exact rput_new B g w ns rv h x hx hin hroom
end Big
end Go.Proofs.YtaccjdbbkmhanaaGreatDoor
