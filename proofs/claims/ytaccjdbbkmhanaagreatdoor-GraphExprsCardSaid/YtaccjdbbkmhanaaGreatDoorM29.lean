import Derived.Test.YtaccjdbbkmhanaaGreatDoorM28
import Derived.Test.YtaccjdbbkmhanaaGreatDoorM21
import Derived.Laws.StructEq
import Derived.Test.YtaccjdbbkmhanaaGreatDoorM27
import Derived.Test.YtaccjdbbkmhanaaGreatDoorM20
namespace Go.Proofs.YtaccjdbbkmhanaaGreatDoor
namespace Big
open Go.RowKit
def prC (L:List (Nat × Nat)):List Value:=L.flatMap (fun p=>[din p.1,din p.2])
theorem prC_len (L:List (Nat × Nat)):(prC L).length=L.length*2:=by
 induction L with
 |nil=>rfl
 |cons p L ih=>
  unfold prC at *
  rw [List.flatMap_cons,List.length_append,ih,List.length_cons]
  simp
  omega
theorem prC_append (L M:List (Nat × Nat)):prC (L++M)=prC L++prC M:=by simp [prC]
theorem prC_one (p:Nat × Nat):prC [p]=[din p.1,din p.2]:=by simp [prC]
theorem prC_take (L:List (Nat × Nat)) (n:Nat):(prC L).take (n*2)=prC (L.take n):=by
 induction L generalizing n with
 |nil=>simp [prC]
 |cons p L ih=>
  cases n with
  |zero=>simp [prC]
  |succ n=>
   unfold prC at *
   rw [List.flatMap_cons,List.take_succ_cons,List.flatMap_cons,show (n+1)*2=n*2+2 by omega]
   show din p.1::din p.2::List.take (n*2) (List.flatMap (fun p=>[din p.1,din p.2]) L)=din p.1::din p.2::List.flatMap (fun p=>[din p.1,din p.2]) (List.take n L)
   rw [ih n]
theorem prC_get (L:List (Nat × Nat)) (i:Nat) (hi:i<L.length):(prC L)[i*2]? =some (din (L.getD i (0,0)).1)∧(prC L)[i*2+1]? =some (din (L.getD i (0,0)).2):=by
 induction L generalizing i with
 |nil=>simp at hi
 |cons p L ih=>
  unfold prC at *
  rw [List.flatMap_cons]
  cases i with
  |zero=>exact ⟨rfl,rfl⟩
  |succ i=>
   have h:=ih i (by simpa using hi)
   rw [List.getElem?_append_right (by simp;omega),List.getElem?_append_right (by simp;omega)]
   have e1:(i+1)*2-[din p.1,din p.2].length=i*2:=by simp;omega
   have e2:(i+1)*2+1-[din p.1,din p.2].length=i*2+1:=by simp;omega
   rw [e1,e2]
   exact h
def RowP (B:Nat) (w:World) (v:Value) (n:Nat) (L:List (Nat × Nat)):Prop:=w.ownsRow B 100 2 v n (prC L)
theorem info_part:(Tryz.prog.info? 100).map (fun i=>(i.zero,i.size,i.bytes))=some (some (.agg #[.int .i64 0,.int .i64 0]),2,16):=by kernel_rfl
theorem RowP.len {B n:Nat} {w:World} {v:Value} {L:List (Nat × Nat)} (h:RowP B w v n L):L.length=n:=by
 have:=h.1
 rw [prC_len] at this
 omega
theorem RowP.ext {B n:Nat} {w w':World} {v:Value} {L:List (Nat × Nat)} (h:RowP B w v n L) (hx:Ext w w'):RowP B w' v n L:=ownsRow_below h (fun _ _ hg=>Below.block hx _ hg)
theorem RowP.get {B n g c:Nat} {w:World} {L:List (Nat × Nat)} (h:RowP B w (.slice (some ⟨g,0,none⟩) n c) n L) (j:Nat) (hj:j<n):w.cell? ⟨g,j*2,none⟩=some (.int .i64 ((L.getD j (0,0)).1:Int))∧w.cell? ⟨g,j*2+1,none⟩=some (.int .i64 ((L.getD j (0,0)).2:Int)):=by
 have hl:=h.len
 have h1:=h.cellAt (j*2) (by omega)
 have h2:=h.cellAt (j*2+1) (by omega)
 have h3:=prC_get L j (by omega)
 rw [h1,h2]
 exact h3
theorem ownsRow_blt {B sz n:Nat} {e:TypeId} {w:World} {v:Value} {xs:List Value} (h:w.ownsRow B e sz v n xs) (g:Nat) (hg:v.ownBlock=some g):B≤g∧g<w.heap.size:=by
 rcases h.2 with ⟨rfl,h2⟩|⟨g',cap,cur,rfl,hb,hh,_⟩
 ·cases hg
 ·simp only [Value.ownBlock,Option.some.injEq] at hg
  subst hg
  refine ⟨hb,?_⟩
  rcases Nat.lt_or_ge g' w.heap.size with h|h
  ·exact h
  ·rw [Array.getElem?_eq_none h] at hh;cases hh
theorem ownsRow_take {B sz n m:Nat} {e:TypeId} {w:World} {A:Option Addr} {c:Nat} {xs:List Value} (h:w.ownsRow B e sz (.slice A n c) n xs) (hm:m≤n):w.ownsRow B e sz (.slice A m c) m (xs.take (m*sz)):=by
 have hms:m*sz≤n*sz:=Nat.mul_le_mul_right sz hm
 refine ⟨by rw [List.length_take,h.1];omega,?_⟩
 rcases h.2 with ⟨h1,h2⟩|⟨g,cap,cur,h1,hb,hh,hc,hmx,hs,ht⟩
 ·injection h1 with h1 h3 h4
  subst h1
  subst h2
  obtain rfl:m=0:=by omega
  exact .inl ⟨by rw [h4],rfl⟩
 ·injection h1 with h1 h3 h4
  subst h1
  subst h4
  exact .inr ⟨g,c,cur,rfl,hb,hh,by omega,hmx,hs,by rw [←ht,List.take_take,Nat.min_eq_left hms]⟩
theorem two_own {B sz1 sz2 n m g:Nat} {e1 e2:TypeId} {W W1 w':World} {v u u':Value} {xs ys:List Value} (h4:W.ownsRow B e1 sz1 v n xs) (h5:W.ownsRow B e2 sz2 u m ys) (hap:Apart v u) (hx:Ext W W1) (hB:B≤W.heap.size)
  (hgr:W1.grownBy w' v.ownBlock) (hat:v.ownBlock=some g∨g=W1.heap.size) (hu:u'.ownBlock=some g):w'.ownsRow B e2 sz2 u m ys∧Apart u' u∧Below B W w':=by
 refine ⟨?_,fun k hk he=> ?_,?_⟩
 ·refine (ownsRow_below h5 (fun _ _ hg=>Below.block hx _ hg)).kept hgr ?_
  cases hu5:u.ownBlock with
  |none=>exact .inl rfl
  |some k=>exact .inr (fun he=>hap k he.symm hu5)
 ·rw [hu] at hk
  injection hk with hk
  subst hk
  rcases hat with hat|hat
  ·exact hap g hat he
  ·have:=(ownsRow_blt h5 g he).2
   have:=hx.size
   omega
 ·exact Below.grown (Below.mono hx hB) hgr (Nat.le_trans hB hx.size) (fun k hk=>(ownsRow_blt h4 k hk).1)
def PartsPost (l:List Nd) (w:World) (e:Ending) (w':World):Prop:=
 ∃v,e= .returned (.tuple #[v,.int .i64 ((prAll l).2:Int)])∧Ext w w'∧RowP w.heap.size w' v (prAll l).1.length (prAll l).1
structure PrInv (l:List Nd) (w:World) (i:Nat) (all st:List (Nat × Nat)) (va vs:Value) (wr:World):Prop where
 go:prAll l=prGo i all st (l.drop i)
 ra:RowP w.heap.size wr va i all
 rs:RowP w.heap.size wr vs st.length st
 apart:Apart va vs
 ext:Ext w wr
 low:∀p∈st,p.1≤i∧p.2≤i
 fs:st.length≤i
theorem PrInv.bad {l:List Nd} {w wr:World} {i:Nat} {all st:List (Nat × Nat)} {va vs:Value} {nd:Nd} (h:PrInv l w i all st va vs wr) (hn:l[i]? =some nd) (hs:prStep i st nd=none):prAll l=(all,0):=by
 have h1:=h.go
 rw [drop_cons_of hn,prGo,hs] at h1
 exact h1
theorem PrInv.next {l:List Nd} {w wr w':World} {i k:Nat} {all st:List (Nat × Nat)} {va vs va' vs':Value} {nd:Nd} {p:Nat × Nat} (h:PrInv l w i all st va vs wr) (hn:l[i]? =some nd) (hs:prStep i st nd=some (p,st.take k++[p]))
  (h4:RowP w.heap.size w' va' (i+1) (all++[p])) (h5:RowP w.heap.size w' vs' (k+1) (st.take k++[p])) (hk:k≤st.length) (hap:Apart va' vs') (hx:Ext w w') (hp:p.1≤i+1∧p.2≤i+1):PrInv l w (i+1) (all++[p]) (st.take k++[p]) va' vs' w':=by
 have h1:=h.go
 rw [drop_cons_of hn,prGo,hs] at h1
 have hl:(st.take k++[p]).length=k+1:=by rw [List.length_append,List.length_take,List.length_singleton];omega
 refine ⟨h1,h4,by rw [hl];exact h5,hap,hx,fun q hq=> ?_,by have:=h.fs;rw [hl];omega⟩
 rcases List.mem_append.1 hq with hq|hq
 ·have:=h.low q (List.mem_of_mem_take hq)
  omega
 ·rw [List.mem_singleton] at hq
  rw [hq]
  exact hp
section
variable {st:List (Nat × Nat)} {i:Nat} {k a b n:Int} {t:List UInt8}
theorem prStep_neg (h:operI k<0):prStep i st ⟨k,a,b,n,t⟩=none:=by unfold prStep;rw [if_pos (.inl h)]
theorem prStep_few (h:(st.length:Int)<operI k):prStep i st ⟨k,a,b,n,t⟩=none:=by unfold prStep;rw [if_pos (.inr (.inl h))]
theorem prStep_0bad (h:operI k=0) (h2:¬(a=0∧b=0)):prStep i st ⟨k,a,b,n,t⟩=none:=by
 unfold prStep
 simp only [h]
 split
 ·rfl
 ·simp [h2]
theorem prStep_1bad (h:operI k=1) (h2:¬(a=(i:Int)-1∧b=0)):prStep i st ⟨k,a,b,n,t⟩=none:=by
 unfold prStep
 simp only [h]
 split
 ·rfl
 ·simp [h2]
theorem prStep_2bad (h:operI k=2) (h2:¬(a=((st.getD (st.length-1) (0,0)).1:Int)-1∧b=(i:Int)-1)):prStep i st ⟨k,a,b,n,t⟩=none:=by
 unfold prStep
 simp only [h]
 split
 ·rfl
 ·first|(simp [h2];done)|(simp;exact fun h3 h4=>absurd ⟨h3,h4⟩ h2)
theorem prStep_0 (h:operI k=0) (hp:plainB ⟨k,0,0,n,t⟩=true):prStep i st ⟨k,0,0,n,t⟩=some ((i,1),st.take (st.length-0)++[(i,1)]):=by
 unfold prStep
 simp only [h,hp]
 rw [if_neg (by first|(simp;done)|(simp;omega))]
 simp
theorem prStep_1 (h:operI k=1) (hp:plainB ⟨k,(i:Int)-1,0,n,t⟩=true) (hm:1≤st.length):prStep i st ⟨k,(i:Int)-1,0,n,t⟩=some (((st.getD (st.length-1) (0,0)).1,(st.getD (st.length-1) (0,0)).2+1),st.take (st.length-1)++[((st.getD (st.length-1) (0,0)).1,(st.getD (st.length-1) (0,0)).2+1)]):=by
 unfold prStep
 simp only [h,hp]
 rw [if_neg (by first|(simp;done)|(simp;omega)),if_neg (by decide),if_pos trivial,if_pos (by simp)]
theorem prStep_2 (h:operI k=2) (hp:plainB ⟨k,((st.getD (st.length-1) (0,0)).1:Int)-1,(i:Int)-1,n,t⟩=true) (hm:2≤st.length):prStep i st ⟨k,((st.getD (st.length-1) (0,0)).1:Int)-1,(i:Int)-1,n,t⟩=some (((st.getD (st.length-2) (0,0)).1,max ((st.getD (st.length-1) (0,0)).2+1) ((st.getD (st.length-2) (0,0)).2+1)),st.take (st.length-2)++[((st.getD (st.length-2) (0,0)).1,max ((st.getD (st.length-1) (0,0)).2+1) ((st.getD (st.length-2) (0,0)).2+1))]):=by
 unfold prStep
 simp only [h,hp]
 rw [if_neg (by first|(simp;done)|(simp;omega)),if_neg (by decide),if_neg (by decide),if_pos (by simp)]
theorem prStep_plain (h:plainB ⟨k,a,b,n,t⟩=false):prStep i st ⟨k,a,b,n,t⟩=none:=by unfold prStep;rw [if_pos (.inr (.inr h))]
end
set_option maxHeartbeats 4000000 in
set_option maxRecDepth 100000 in
theorem parts_any (w:World) (v:Value) (l:List Nd) (hr:RNd w v l) (hl:l.length≤1000000) (htx:∀x∈l,x.text.length≤1073741824) (hm:MaxV w):Calls Tryz.prog 57 #[v] w (PartsPost l w):=by
 have HR:=Lib.hid hr
 have HTX:=Lib.hid htx
 have HMV:=Lib.hid hm
 obtain ⟨i0,hi,hz0,hz1,hz2⟩:=info_parts info_part
 obtain ⟨A,c,rfl,_⟩:=hr
 clear htx hm
 have HST:Hid (PrInv l w 0 [] [] (.slice none 0 0) (.slice none 0 0) w):=Lib.hid ⟨rfl,⟨rfl,.inl ⟨rfl,rfl⟩⟩,⟨rfl,.inl ⟨rfl,rfl⟩⟩,(fun g h=>by cases h),Ext.refl w,(fun p h=>by cases h),Nat.zero_le _⟩
 obtain ⟨n,hn⟩:∃n,n=l.length:=⟨_,rfl⟩
 have HN:=Lib.hid hn
 rw [←hn] at hl ⊢
 clear hn
 go_enter Tryz.func57,Tryz.ntmps57
 go_wp2_with fail
 go_loopw [4,5,15] (fun s4 s5 s15 wr=>∃(i:Nat) (all st:List (Nat × Nat)),i≤n∧s15= .int .i64 (i:Int)∧PrInv l w i all st s4 s5 wr) (fun _ _ s15 _=>n-(intOf s15).toNat)
 case atStart=>exact ⟨0,[],[],Nat.zero_le _,rfl,HST.out⟩
 case round=>
  obtain ⟨i,all,st,hin,rfl,hinv⟩:=hrel
  have HI:=Lib.hid hinv
  obtain ⟨A4,c4,rfl⟩:=ownsRow_shape hinv.ra
  obtain ⟨A5,c5,rfl⟩:=ownsRow_shape hinv.rs
  clear HST
  have hfs:=hinv.fs
  obtain ⟨ms,hms⟩:∃ms,ms=st.length:=⟨_,rfl⟩
  rw [←hms] at hfs ⊢
  have HMS:=Lib.hid hms
  clear hms
  by_cases hlt:i<n
  ·have hil:i<l.length:=by rw [←HN.out];exact hlt
   obtain ⟨A',c',he,hc⟩:=HR.out.ext hinv.ext
   obtain ⟨b,o,hA',hb,hc⟩:=hc (by omega)
   obtain ⟨nd,hnd,hat,htl⟩:∃nd,l[i]? =some nd∧NdAt wr b (o+i*5) nd∧nd.text.length≤1073741824:=⟨l[i],List.getElem?_eq_getElem hil,hc i hil,HTX.out _ (List.getElem_mem hil)⟩
   injection he with he1 he2 he3
   subst he1
   clear he2 he3
   subst hA'
   have HBAD:Hid (prStep i st nd=none→prAll l=(all,0)):=Lib.hid (fun h=>hinv.bad hnd h)
   have HND:=Lib.hid hnd
   clear hnd hc
   have hw:wr.heap.size≥w.heap.size:=hinv.ext.size
   have HX:=Lib.hid hinv.ext
   have HMW:=Lib.hid (HMV.out.ext hinv.ext)
   clear hinv hil
   obtain ⟨kd,na,nb,nn,nt⟩:=nd
   have HPL:=Lib.hid (fun W h=>pplain_any W ⟨kd,na,nb,nn,nt⟩ htl h)
   simp only [ndV] at HPL
   obtain ⟨k0,k1,k2,k3,k4⟩:=hat
   simp only at k0 k1 k2 k3 k4
   obtain ⟨s,hs⟩:∃s:ByteArray,s=⟨nt.toArray⟩:=⟨_,rfl⟩
   have hst:str nt= .string s:=by rw [hs];rfl
   rw [hst] at HPL k4
   clear hs hst htl
   have HOP:=Lib.hid (fun W=>poperands_any W kd)
   have key:=operI_cases kd
   obtain ⟨p,hp⟩:∃p,p=plainB ⟨kd,na,nb,nn,nt⟩:=⟨_,rfl⟩
   rw [←hp] at HPL
   have hb0:=Blk.new wr 50 #[.int .i64 kd,.int .i64 na,.int .i64 nb,.int .i64 nn,.string s]
   have HXA:=Lib.hid ((Ext.refl wr).alloc (.cells #[.int .i64 kd,.int .i64 na,.int .i64 nb,.int .i64 nn,.string s] 50))
   have HBN:=Lib.hid hb0
   obtain ⟨q0,q1,q2,q3,q4⟩:=hb0.five
   clear hb0
   have HRA:=Lib.hid HI.out.ra
   have HRS:Hid (RowP w.heap.size wr (.slice A5 ms c5) ms st):=Lib.hid (by
    have h:=HI.out.rs
    rw [←HMS.out] at h
    exact h)
   have HFA:=Lib.hid HI.out.ra.len
   have HLOW:Hid (∀j,j<ms→(st.getD j (0,0)).1≤i∧(st.getD j (0,0)).2≤i):=Lib.hid (fun j hj=>HI.out.low _ (by
    have hjl:j<st.length:=by rw [←HMS.out];exact hj
    rw [List.getD_eq_getElem?_getD,List.getElem?_eq_getElem hjl]
    exact List.getElem_mem hjl))
   rcases key with hop|hop|hop|hop
   ·have HNO:=Lib.hid (HBAD.out (prStep_neg (by rw [hop];decide)))
    rw [hop] at HOP
    clear hop hp HBAD
    go_wp2_with fail
    refine (HOP.out _).mono ?_
    rintro e w2 ⟨rfl,rfl⟩
    go_wp2_with fail
    go_ret2
    exact ⟨_,by rw [HNO.out];rfl,HX.out.trans HXA.out,by rw [HNO.out,HFA.out];exact HRA.out.ext HXA.out⟩
   ·cases hpb:p
    ·rw [hpb] at hp HPL
     have HNO:=Lib.hid (HBAD.out (prStep_plain hp.symm))
     rw [hop] at HOP
     clear hop hp HBAD hpb
     go_wp2_with fail
     refine (HOP.out _).mono ?_
     rintro e w2 ⟨rfl,rfl⟩
     go_wp2_with fail
     refine (HPL.out _ (HMW.out.ext HXA.out)).mono ?_
     rintro e w3 ⟨rfl,hx3⟩
     obtain ⟨q0,q1,q2,q3,q4⟩:=(HBN.out.ext hx3).five
     have hws:=(HBN.out.ext hx3).lt
     have hws1:wr.heap.size<w3.heap.size+1:=by omega
     have hws2:wr.heap.size<w3.heap.size+1+1:=by omega
     have hws3:wr.heap.size<w3.heap.size+1+1+1:=by omega
     have HX3:=Lib.hid (HXA.out.trans hx3)
     clear hx3
     go_wp2_with fail
     go_ret2
     exact ⟨_,by rw [HNO.out];rfl,HX.out.trans HX3.out,by rw [HNO.out,HFA.out];exact HRA.out.ext HX3.out⟩
    ·rw [hpb] at hp HPL
     have HPB:=Lib.hid hp.symm
     clear hpb hp
     by_cases ha:na=0
     ·subst ha
      by_cases hb2:nb=0
      ·subst hb2
       have HSP:Hid (prStep i st ⟨kd,0,0,nn,nt⟩=some ((i,1),st.take (ms-0)++[(i,1)])):=Lib.hid (by rw [HMS.out];exact prStep_0 hop HPB.out)
       have HBD:Hid (i≤i+1∧1≤i+1):=Lib.hid ⟨by omega,by omega⟩
       rw [hop] at HOP
       clear hop HBAD
       go_wp2_with fail
       refine (HOP.out _).mono ?_
       rintro e w2 ⟨rfl,rfl⟩
       go_wp2_with fail
       refine (HPL.out _ (HMW.out.ext HXA.out)).mono ?_
       rintro e w3 ⟨rfl,hx3⟩
       obtain ⟨q0,q1,q2,q3,q4⟩:=(HBN.out.ext hx3).five
       have hws:=(HBN.out.ext hx3).lt
       have hws1:wr.heap.size<w3.heap.size+1:=by omega
       have hws2:wr.heap.size<w3.heap.size+1+1:=by omega
       have hws3:wr.heap.size<w3.heap.size+1+1+1:=by omega
       have HX3:=Lib.hid (HXA.out.trans hx3)
       clear hx3
       go_upto_region 20 with fail
       rcases HRS.out.2 with ⟨he,h0⟩|⟨g5,cap5,cur5,he,_,_,hcp,_⟩
       ·injection he with he1 he2 he3
        have H0:=Lib.hid (And.intro he2 he3)
        subst he1
        clear he2 he3 h0
        obtain ⟨w4,hw4⟩:∃w4,w4=(w3.alloc (.cells #[.int .i64 (i:Int),.int .i64 1] 100)).alloc (.cells #[.int .i64 kd,.int .i64 0,.int .i64 0,.int .i64 nn,.string s] 50):=⟨_,rfl⟩
        rw [←hw4]
        have hx34:Ext w3 w4:=by rw [hw4];exact (((Ext.refl w3).alloc _).alloc _)
        have hbp:Blk w4 w3.heap.size 100 #[.int .i64 (i:Int),.int .i64 1]:=by rw [hw4];exact ((Blk.new w3 _ _).alloc _)
        have HX4:=Lib.hid (HX3.out.trans hx34)
        have HBP:=Lib.hid hbp
        obtain ⟨p0,p1⟩:=hbp.two'
        obtain ⟨mk,hmk⟩:∃mk,mk=ms-0:=⟨_,rfl⟩
        have hwk:IntKind.i64.wrap (ms:Int)=(mk:Int):=by rw [IntWalk.i64_in _ (by omega)];omega
        have hmc:mk≤c5:=by have:=H0.out;omega
        have hgw:w.heap.size≤w4.heap.size:=Nat.le_trans HX.out.size HX4.out.size
        have HS4:=Lib.hid (ownsRow_take (m:=mk) (HRS.out.ext HX4.out) (by omega))
        have HA4:=Lib.hid (HRA.out.ext HX4.out)
        have hbpl:=hbp.lt
        have hgpr:wr.heap.size≤w3.heap.size:=HX3.out.size
        have HMKL:Hid (mk≤st.length):=Lib.hid (by rw [←HMS.out];omega)
        have HSQ:Hid (prStep i st ⟨kd,0,0,nn,nt⟩=some ((i,1),st.take mk++[(i,1)])):=Lib.hid (by rw [hmk];exact HSP.out)
        have HRO:Hid ((w4.alloc (.cells #[.int .i64 (i:Int),.int .i64 1] 100)).drew.ownsRow w.heap.size 100 2 (.slice none mk c5) mk ((prC st).take (mk*2))):=Lib.hid (ownsRow_below HS4.out (fun k _ hk=>Below.heap_alloc w4 _ k hk))
        have HNW:Hid (∀(j:Nat) (u:Value),[Value.int .i64 (i:Int),Value.int .i64 1][j]? =some u→(w4.alloc (.cells #[.int .i64 (i:Int),.int .i64 1] 100)).drew.cell? ((⟨w4.heap.size,0,none⟩:Addr).add j)=some u):=Lib.hid (newsL w4 100 [.int .i64 (i:Int),.int .i64 1])
        have HB1:Hid (mk+1≤maxLen):=Lib.hid (by unfold maxLen;omega)
        have HB2:Hid ((mk+1)*16≤140737488355328):=Lib.hid (by omega)
        have HB3:Hid (w.heap.size≤(w4.alloc (.cells #[.int .i64 (i:Int),.int .i64 1] 100)).drew.heap.size):=Lib.hid (by simp;omega)
        clear hw4 hbp hx34 hmk q0 q1 q2 q3 q4
        go_region_law (refine step_append_lies _ rfl (.tmp 96) (.tmp 98) 96 rfl w.heap.size 100 i0 _ 2 16 Tryz.underlying96 hi hz0 hz1 hz2 rfl (by decide) _ mk ((prC st).take (mk*2)) rfl HRO.out ⟨w4.heap.size,0,none⟩ 1 1 [.int .i64 (i:Int),.int .i64 1] rfl rfl HNW.out (by simp [Value.oneCell']) (by decide) HB1.out HB2.out HB3.out _ rfl ?_;intro g6 c6 w6 hown6 hgr6 hat6 hlt6;have HO6:=Lib.hid hown6;have HGR6:=Lib.hid hgr6;have HAT6:=Lib.hid hat6;clear hown6 hgr6 hat6)
        all_goals
         have HX1:Hid (Ext w4 (w4.alloc (.cells #[.int .i64 (i:Int),.int .i64 1] 100)).drew):=Lib.hid ((Ext.refl w4).alloc _).drew
         have HTR:=Lib.hid (two_own (u':= .slice (some ⟨g6,0,none⟩) (mk+1) c6) HS4.out HA4.out (fun g h1 h2=>HI.out.apart g h2 h1) HX1.out hgw HGR6.out HAT6.out rfl)
         have hbp6:Blk w6 w3.heap.size 100 #[.int .i64 (i:Int),.int .i64 1]:=(HGR6.out.block w3.heap.size (Nat.lt_of_lt_of_le hbpl HX1.out.size) (by intro he;cases he)).trans (HBP.out.ext HX1.out)
         obtain ⟨y0,y1⟩:=hbp6.two'
         have HS6:Hid (RowP w.heap.size w6 (.slice (some ⟨g6,0,none⟩) (mk+1) c6) (mk+1) (st.take mk++[(i,1)])):=Lib.hid (by unfold RowP;rw [prC_append,prC_one,←prC_take];exact HO6.out)
         have HRO2:Hid ((w6.alloc (.cells #[.int .i64 (i:Int),.int .i64 1] 100)).ownsRow w.heap.size 100 2 (.slice A4 i c4) i (prC all)):=Lib.hid (ownsRow_below HTR.out.1 (fun k _ hk=>Below.heap_alloc w6 _ k hk))
         have HNW2:=Lib.hid (newsL w6 100 [.int .i64 (i:Int),.int .i64 1])
         have HB4:Hid (i+1≤maxLen):=Lib.hid (by unfold maxLen;omega)
         have HB5:Hid ((i+1)*16≤140737488355328):=Lib.hid (by omega)
         have hgw6:w.heap.size≤w6.heap.size:=Nat.le_trans hgw HTR.out.2.2.size
         have HB6:Hid (w.heap.size≤(w6.alloc (.cells #[.int .i64 (i:Int),.int .i64 1] 100)).heap.size):=Lib.hid (by simp;omega)
         clear hbp6 p0 p1
         go_wp2_with (at_builtin;go_must (refine wpList_append_lies _ rfl _ _ 96 rfl w.heap.size 100 i0 _ 2 16 Tryz.underlying96 hi hz0 hz1 hz2 rfl (by decide) (.slice A4 i c4) i (prC all) rfl HRO2.out ⟨w6.heap.size,0,none⟩ 1 1 [.int .i64 (i:Int),.int .i64 1] rfl rfl HNW2.out (by simp [Value.oneCell']) (by decide) HB4.out HB5.out HB6.out _ rfl ?_;intro g7 c7 w7 hown7 hgr7 hat7 hlt7;have HTS:=Lib.hid (two_own (u':= .slice (some ⟨g7,0,none⟩) (i+1) c7) HTR.out.1 HS6.out (fun g h1 h2=>HTR.out.2.1 g h2 h1) ((Ext.refl w6).alloc _) hgw6 hgr7 hat7 rfl);have HA7:Hid (RowP w.heap.size w7 (.slice (some ⟨g7,0,none⟩) (i+1) c7) (i+1) (all++[(i,1)])):=Lib.hid (by unfold RowP;rw [prC_append,prC_one];exact hown7);clear hown7 hgr7 hat7))
         go_wp2_with fail
         go_roundw
         case rel=>exact ⟨i+1,_,_,by omega,by go_num,HI.out.next HND.out HSQ.out HA7.out HTS.out.1 HMKL.out HTS.out.2.1 ((HX.out.trans HX4.out).more (HTR.out.2.2.trans HTS.out.2.2)) (by have:=HBD.out;exact this)⟩
         case measure=>simp [intOf];omega
       ·injection he with he1 he2 he3
        subst he1
        subst he3
        clear he2
        obtain ⟨w4,hw4⟩:∃w4,w4=(w3.alloc (.cells #[.int .i64 (i:Int),.int .i64 1] 100)).alloc (.cells #[.int .i64 kd,.int .i64 0,.int .i64 0,.int .i64 nn,.string s] 50):=⟨_,rfl⟩
        rw [←hw4]
        have hx34:Ext w3 w4:=by rw [hw4];exact (((Ext.refl w3).alloc _).alloc _)
        have hbp:Blk w4 w3.heap.size 100 #[.int .i64 (i:Int),.int .i64 1]:=by rw [hw4];exact ((Blk.new w3 _ _).alloc _)
        have HX4:=Lib.hid (HX3.out.trans hx34)
        have HBP:=Lib.hid hbp
        obtain ⟨p0,p1⟩:=hbp.two'
        obtain ⟨mk,hmk⟩:∃mk,mk=ms-0:=⟨_,rfl⟩
        have hwk:IntKind.i64.wrap (ms:Int)=(mk:Int):=by rw [IntWalk.i64_in _ (by omega)];omega
        have hmc:mk≤c5:=by omega
        have hgw:w.heap.size≤w4.heap.size:=Nat.le_trans HX.out.size HX4.out.size
        have HS4:=Lib.hid (ownsRow_take (m:=mk) (HRS.out.ext HX4.out) (by omega))
        have HA4:=Lib.hid (HRA.out.ext HX4.out)
        have hbpl:=hbp.lt
        have hgpr:wr.heap.size≤w3.heap.size:=HX3.out.size
        have HMKL:Hid (mk≤st.length):=Lib.hid (by rw [←HMS.out];omega)
        have HSQ:Hid (prStep i st ⟨kd,0,0,nn,nt⟩=some ((i,1),st.take mk++[(i,1)])):=Lib.hid (by rw [hmk];exact HSP.out)
        have HRO:Hid ((w4.alloc (.cells #[.int .i64 (i:Int),.int .i64 1] 100)).drew.ownsRow w.heap.size 100 2 (.slice (some ⟨g5,0,none⟩) mk c5) mk ((prC st).take (mk*2))):=Lib.hid (ownsRow_below HS4.out (fun k _ hk=>Below.heap_alloc w4 _ k hk))
        have HNW:Hid (∀(j:Nat) (u:Value),[Value.int .i64 (i:Int),Value.int .i64 1][j]? =some u→(w4.alloc (.cells #[.int .i64 (i:Int),.int .i64 1] 100)).drew.cell? ((⟨w4.heap.size,0,none⟩:Addr).add j)=some u):=Lib.hid (newsL w4 100 [.int .i64 (i:Int),.int .i64 1])
        have HB1:Hid (mk+1≤maxLen):=Lib.hid (by unfold maxLen;omega)
        have HB2:Hid ((mk+1)*16≤140737488355328):=Lib.hid (by omega)
        have HB3:Hid (w.heap.size≤(w4.alloc (.cells #[.int .i64 (i:Int),.int .i64 1] 100)).drew.heap.size):=Lib.hid (by simp;omega)
        clear hw4 hbp hx34 hmk q0 q1 q2 q3 q4
        go_region_law (refine step_append_lies _ rfl (.tmp 96) (.tmp 98) 96 rfl w.heap.size 100 i0 _ 2 16 Tryz.underlying96 hi hz0 hz1 hz2 rfl (by decide) _ mk ((prC st).take (mk*2)) rfl HRO.out ⟨w4.heap.size,0,none⟩ 1 1 [.int .i64 (i:Int),.int .i64 1] rfl rfl HNW.out (by simp [Value.oneCell']) (by decide) HB1.out HB2.out HB3.out _ rfl ?_;intro g6 c6 w6 hown6 hgr6 hat6 hlt6;have HO6:=Lib.hid hown6;have HGR6:=Lib.hid hgr6;have HAT6:=Lib.hid hat6;clear hown6 hgr6 hat6)
        all_goals
         have HX1:Hid (Ext w4 (w4.alloc (.cells #[.int .i64 (i:Int),.int .i64 1] 100)).drew):=Lib.hid ((Ext.refl w4).alloc _).drew
         have HTR:=Lib.hid (two_own (u':= .slice (some ⟨g6,0,none⟩) (mk+1) c6) HS4.out HA4.out (fun g h1 h2=>HI.out.apart g h2 h1) HX1.out hgw HGR6.out HAT6.out rfl)
         have hbp6:Blk w6 w3.heap.size 100 #[.int .i64 (i:Int),.int .i64 1]:=(HGR6.out.block w3.heap.size (Nat.lt_of_lt_of_le hbpl HX1.out.size) (by intro he;have he2:w3.heap.size=g5:=Option.some.inj he;have:=(ownsRow_blt HRS.out g5 rfl).2;omega)).trans (HBP.out.ext HX1.out)
         obtain ⟨y0,y1⟩:=hbp6.two'
         have HS6:Hid (RowP w.heap.size w6 (.slice (some ⟨g6,0,none⟩) (mk+1) c6) (mk+1) (st.take mk++[(i,1)])):=Lib.hid (by unfold RowP;rw [prC_append,prC_one,←prC_take];exact HO6.out)
         have HRO2:Hid ((w6.alloc (.cells #[.int .i64 (i:Int),.int .i64 1] 100)).ownsRow w.heap.size 100 2 (.slice A4 i c4) i (prC all)):=Lib.hid (ownsRow_below HTR.out.1 (fun k _ hk=>Below.heap_alloc w6 _ k hk))
         have HNW2:=Lib.hid (newsL w6 100 [.int .i64 (i:Int),.int .i64 1])
         have HB4:Hid (i+1≤maxLen):=Lib.hid (by unfold maxLen;omega)
         have HB5:Hid ((i+1)*16≤140737488355328):=Lib.hid (by omega)
         have hgw6:w.heap.size≤w6.heap.size:=Nat.le_trans hgw HTR.out.2.2.size
         have HB6:Hid (w.heap.size≤(w6.alloc (.cells #[.int .i64 (i:Int),.int .i64 1] 100)).heap.size):=Lib.hid (by simp;omega)
         clear hbp6 p0 p1
         go_wp2_with (at_builtin;go_must (refine wpList_append_lies _ rfl _ _ 96 rfl w.heap.size 100 i0 _ 2 16 Tryz.underlying96 hi hz0 hz1 hz2 rfl (by decide) (.slice A4 i c4) i (prC all) rfl HRO2.out ⟨w6.heap.size,0,none⟩ 1 1 [.int .i64 (i:Int),.int .i64 1] rfl rfl HNW2.out (by simp [Value.oneCell']) (by decide) HB4.out HB5.out HB6.out _ rfl ?_;intro g7 c7 w7 hown7 hgr7 hat7 hlt7;have HTS:=Lib.hid (two_own (u':= .slice (some ⟨g7,0,none⟩) (i+1) c7) HTR.out.1 HS6.out (fun g h1 h2=>HTR.out.2.1 g h2 h1) ((Ext.refl w6).alloc _) hgw6 hgr7 hat7 rfl);have HA7:Hid (RowP w.heap.size w7 (.slice (some ⟨g7,0,none⟩) (i+1) c7) (i+1) (all++[(i,1)])):=Lib.hid (by unfold RowP;rw [prC_append,prC_one];exact hown7);clear hown7 hgr7 hat7))
         go_wp2_with fail
         go_roundw
         case rel=>exact ⟨i+1,_,_,by omega,by go_num,HI.out.next HND.out HSQ.out HA7.out HTS.out.1 HMKL.out HTS.out.2.1 ((HX.out.trans HX4.out).more (HTR.out.2.2.trans HTS.out.2.2)) (by have:=HBD.out;exact this)⟩
         case measure=>simp [intOf];omega
      ·have HNO:=Lib.hid (HBAD.out (prStep_0bad hop (fun h=>hb2 h.2)))
       rw [hop] at HOP
       clear hop HBAD
       go_wp2_with fail
       refine (HOP.out _).mono ?_
       rintro e w2 ⟨rfl,rfl⟩
       go_wp2_with fail
       refine (HPL.out _ (HMW.out.ext HXA.out)).mono ?_
       rintro e w3 ⟨rfl,hx3⟩
       obtain ⟨q0,q1,q2,q3,q4⟩:=(HBN.out.ext hx3).five
       have hws:=(HBN.out.ext hx3).lt
       have hws1:wr.heap.size<w3.heap.size+1:=by omega
       have hws2:wr.heap.size<w3.heap.size+1+1:=by omega
       have hws3:wr.heap.size<w3.heap.size+1+1+1:=by omega
       have HX3:=Lib.hid (HXA.out.trans hx3)
       clear hx3
       go_wp2_with fail
       go_ret2
       exact ⟨_,by rw [HNO.out];rfl,HX.out.trans (HX3.out.trans ((((Ext.refl w3).alloc _).alloc _))),by rw [HNO.out,HFA.out];exact HRA.out.ext (HX3.out.trans ((((Ext.refl w3).alloc _).alloc _)))⟩
     ·have HNO:=Lib.hid (HBAD.out (prStep_0bad hop (fun h=>ha h.1)))
      rw [hop] at HOP
      clear hop HBAD
      go_wp2_with fail
      refine (HOP.out _).mono ?_
      rintro e w2 ⟨rfl,rfl⟩
      go_wp2_with fail
      refine (HPL.out _ (HMW.out.ext HXA.out)).mono ?_
      rintro e w3 ⟨rfl,hx3⟩
      obtain ⟨q0,q1,q2,q3,q4⟩:=(HBN.out.ext hx3).five
      have hws:=(HBN.out.ext hx3).lt
      have hws1:wr.heap.size<w3.heap.size+1:=by omega
      have hws2:wr.heap.size<w3.heap.size+1+1:=by omega
      have hws3:wr.heap.size<w3.heap.size+1+1+1:=by omega
      have HX3:=Lib.hid (HXA.out.trans hx3)
      clear hx3
      go_wp2_with fail
      go_ret2
      exact ⟨_,by rw [HNO.out];rfl,HX.out.trans (HX3.out.trans ((((Ext.refl w3).alloc _).alloc _))),by rw [HNO.out,HFA.out];exact HRA.out.ext (HX3.out.trans ((((Ext.refl w3).alloc _).alloc _)))⟩
   ·by_cases hmf:ms<1
    ·obtain rfl:ms=0:=by omega
     have HNO:=Lib.hid (HBAD.out (prStep_few (by rw [hop,←HMS.out];decide)))
     rw [hop] at HOP
     clear hop hp HBAD
     go_wp2_with fail
     refine (HOP.out _).mono ?_
     rintro e w2 ⟨rfl,rfl⟩
     go_wp2_with fail
     go_ret2
     exact ⟨_,by rw [HNO.out];rfl,HX.out.trans HXA.out,by rw [HNO.out,HFA.out];exact HRA.out.ext HXA.out⟩
    ·have hm1:1≤ms:=by omega
     have hm1':0<ms:=by omega
     have hm1i:¬(ms:Int)<1:=by omega
     cases hpb:p
     ·rw [hpb] at hp HPL
      have HNO:=Lib.hid (HBAD.out (prStep_plain hp.symm))
      rw [hop] at HOP
      clear hop hp HBAD hpb
      go_wp2_with fail
      refine (HOP.out _).mono ?_
      rintro e w2 ⟨rfl,rfl⟩
      go_wp2_with fail
      refine (HPL.out _ (HMW.out.ext HXA.out)).mono ?_
      rintro e w3 ⟨rfl,hx3⟩
      obtain ⟨q0,q1,q2,q3,q4⟩:=(HBN.out.ext hx3).five
      have hws:=(HBN.out.ext hx3).lt
      have hws1:wr.heap.size<w3.heap.size+1:=by omega
      have hws2:wr.heap.size<w3.heap.size+1+1:=by omega
      have hws3:wr.heap.size<w3.heap.size+1+1+1:=by omega
      have HX3:=Lib.hid (HXA.out.trans hx3)
      clear hx3
      go_wp2_with fail
      go_ret2
      exact ⟨_,by rw [HNO.out];rfl,HX.out.trans HX3.out,by rw [HNO.out,HFA.out];exact HRA.out.ext HX3.out⟩
     ·rw [hpb] at hp HPL
      have HPB:=Lib.hid hp.symm
      clear hpb hp
      obtain ⟨g5,d5,he5,hbg5,hlg5⟩:=HRS.out.form (by omega)
      injection he5 with he5 hx5 hy5
      subst he5
      clear hx5 hy5
      obtain ⟨z1,hz1'⟩:∃z1:Int,z1=(ms:Int)-1:=⟨_,rfl⟩
      have hj1:z1.toNat=ms-1:=by omega
      have hwz1:IntKind.i64.wrap ((ms:Int)-1)=z1:=by rw [IntWalk.i64_in _ (by omega),hz1']
      have hz1a:(0:Int)≤z1:=by omega
      have hz1b:z1<(ms:Int):=by omega
      obtain ⟨f1,hf1⟩:∃f1,f1=(st.getD (ms-1) (0,0)).1:=⟨_,rfl⟩
      obtain ⟨d1,hd1⟩:∃d1,d1=(st.getD (ms-1) (0,0)).2:=⟨_,rfl⟩
      have hlo1:=HLOW.out (ms-1) (by omega)
      rw [←hf1,←hd1] at hlo1
      have HCL1:Hid (∀W,RowP w.heap.size W (.slice (some ⟨g5,0,none⟩) ms c5) ms st→W.cell? ⟨g5,z1.toNat*2,none⟩=some (.int .i64 (f1:Int))∧W.cell? ⟨g5,z1.toNat*2+1,none⟩=some (.int .i64 (d1:Int))):=Lib.hid (fun W h=>by rw [hj1,hf1,hd1];exact h.get (ms-1) (by omega))
      have HF1:=Lib.hid hf1
      have HD1:=Lib.hid hd1
      obtain ⟨zi,hzi⟩:∃zi:Int,zi=(i:Int)-1:=⟨_,rfl⟩
      have hwzi:IntKind.i64.wrap ((i:Int)-1)=zi:=by rw [IntWalk.i64_in _ (by omega),hzi]
      have HZI:=Lib.hid hzi
      have hwd1:IntKind.i64.wrap ((d1:Int)+1)=((d1+1:Nat):Int):=by rw [IntWalk.i64_in _ (by omega)];omega
      obtain ⟨e1,he1⟩:∃e1,e1=d1+1:=⟨_,rfl⟩
      rw [←he1] at hwd1
      have HE1:=Lib.hid he1
      have HZD1:=Lib.hid hz1'
      clear hf1 hd1 hzi he1 hz1' hj1
      by_cases ha:na=zi
      ·subst ha
       by_cases hb2:nb=0
       ·subst hb2
        have HSP:Hid (prStep i st ⟨kd,na,0,nn,nt⟩=some ((f1,e1),st.take (ms-1)++[(f1,e1)])):=Lib.hid (by
         have h:=prStep_1 (i:=i) (st:=st) (n:=nn) (t:=nt) hop (by rw [←HZI.out];exact HPB.out) (by rw [←HMS.out];omega)
         rw [←HZI.out,←HMS.out,←HF1.out,←HD1.out,←HE1.out] at h
         exact h)
        have HBD:Hid (f1≤i+1∧e1≤i+1):=Lib.hid ⟨by omega,by rw [HE1.out];omega⟩
        have he1b:e1≤1000002:=by rw [HE1.out];omega
        rw [hop] at HOP
        clear hop HBAD
        go_wp2_with fail
        refine (HOP.out _).mono ?_
        rintro e w2 ⟨rfl,rfl⟩
        go_wp2_with fail
        refine (HPL.out _ (HMW.out.ext HXA.out)).mono ?_
        rintro e w3 ⟨rfl,hx3⟩
        obtain ⟨q0,q1,q2,q3,q4⟩:=(HBN.out.ext hx3).five
        have hws:=(HBN.out.ext hx3).lt
        have hws1:wr.heap.size<w3.heap.size+1:=by omega
        have hws2:wr.heap.size<w3.heap.size+1+1:=by omega
        have hws3:wr.heap.size<w3.heap.size+1+1+1:=by omega
        have HX3:=Lib.hid (HXA.out.trans hx3)
        clear hx3
        have hg5w:=(ownsRow_blt (HRS.out.ext HX3.out) g5 rfl).2
        have hg5a:g5<w3.heap.size+1:=by omega
        have hg5b:g5<w3.heap.size+1+1:=by omega
        have hg5c:g5<w3.heap.size+1+1+1:=by omega
        obtain ⟨c51,c52⟩:=HCL1.out w3 (HRS.out.ext HX3.out)
        go_upto_region 20 with fail
        have hcp:ms≤c5:=by
         rcases HRS.out.2 with ⟨he,h0⟩|⟨g5',cap5,cur5,he,_,_,hcp,_⟩
         ·cases he
         ·injection he with he1 he2 he3;rw [he3];exact hcp
        obtain ⟨w4,hw4⟩:∃w4,w4=((w3.alloc (.cells #[.int .i64 (f1:Int),.int .i64 (e1:Int)] 100)).alloc (.cells #[.int .i64 kd,.int .i64 na,.int .i64 0,.int .i64 nn,.string s] 50)).alloc (.cells #[.int .i64 (f1:Int),.int .i64 (d1:Int)] 100):=⟨_,rfl⟩
        rw [←hw4]
        have hx34:Ext w3 w4:=by rw [hw4];exact ((((Ext.refl w3).alloc _).alloc _).alloc _)
        have hbp:Blk w4 w3.heap.size 100 #[.int .i64 (f1:Int),.int .i64 (e1:Int)]:=by rw [hw4];exact (((Blk.new w3 _ _).alloc _).alloc _)
        have HX4:=Lib.hid (HX3.out.trans hx34)
        have HBP:=Lib.hid hbp
        obtain ⟨p0,p1⟩:=hbp.two'
        obtain ⟨mk,hmk⟩:∃mk,mk=ms-1:=⟨_,rfl⟩
        have hzc:z1≤(c5:Int):=by have:=HZD1.out;omega
        have hzt:z1.toNat=mk:=by have:=HZD1.out;omega
        have hgw:w.heap.size≤w4.heap.size:=Nat.le_trans HX.out.size HX4.out.size
        have HS4:=Lib.hid (ownsRow_take (m:=mk) (HRS.out.ext HX4.out) (by omega))
        have HA4:=Lib.hid (HRA.out.ext HX4.out)
        have hbpl:=hbp.lt
        have hgpr:wr.heap.size≤w3.heap.size:=HX3.out.size
        have HMKL:Hid (mk≤st.length):=Lib.hid (by rw [←HMS.out];omega)
        have HSQ:Hid (prStep i st ⟨kd,na,0,nn,nt⟩=some ((f1,e1),st.take mk++[(f1,e1)])):=Lib.hid (by rw [hmk];exact HSP.out)
        have HRO:Hid ((w4.alloc (.cells #[.int .i64 (f1:Int),.int .i64 (e1:Int)] 100)).drew.ownsRow w.heap.size 100 2 (.slice (some ⟨g5,0,none⟩) mk c5) mk ((prC st).take (mk*2))):=Lib.hid (ownsRow_below HS4.out (fun k _ hk=>Below.heap_alloc w4 _ k hk))
        have HNW:Hid (∀(j:Nat) (u:Value),[Value.int .i64 (f1:Int),Value.int .i64 (e1:Int)][j]? =some u→(w4.alloc (.cells #[.int .i64 (f1:Int),.int .i64 (e1:Int)] 100)).drew.cell? ((⟨w4.heap.size,0,none⟩:Addr).add j)=some u):=Lib.hid (newsL w4 100 [.int .i64 (f1:Int),.int .i64 (e1:Int)])
        have HB1:Hid (mk+1≤maxLen):=Lib.hid (by unfold maxLen;omega)
        have HB2:Hid ((mk+1)*16≤140737488355328):=Lib.hid (by omega)
        have HB3:Hid (w.heap.size≤(w4.alloc (.cells #[.int .i64 (f1:Int),.int .i64 (e1:Int)] 100)).drew.heap.size):=Lib.hid (by simp;omega)
        clear hw4 hbp hx34 hmk q0 q1 q2 q3 q4
        go_region_law (refine step_append_lies _ rfl (.tmp 96) (.tmp 98) 96 rfl w.heap.size 100 i0 _ 2 16 Tryz.underlying96 hi hz0 hz1 hz2 rfl (by decide) _ mk ((prC st).take (mk*2)) rfl HRO.out ⟨w4.heap.size,0,none⟩ 1 1 [.int .i64 (f1:Int),.int .i64 (e1:Int)] rfl rfl HNW.out (by simp [Value.oneCell']) (by decide) HB1.out HB2.out HB3.out _ rfl ?_;intro g6 c6 w6 hown6 hgr6 hat6 hlt6;have HO6:=Lib.hid hown6;have HGR6:=Lib.hid hgr6;have HAT6:=Lib.hid hat6;clear hown6 hgr6 hat6)
        all_goals
         have HX1:Hid (Ext w4 (w4.alloc (.cells #[.int .i64 (f1:Int),.int .i64 (e1:Int)] 100)).drew):=Lib.hid ((Ext.refl w4).alloc _).drew
         have HTR:=Lib.hid (two_own (u':= .slice (some ⟨g6,0,none⟩) (mk+1) c6) HS4.out HA4.out (fun g h1 h2=>HI.out.apart g h2 h1) HX1.out hgw HGR6.out HAT6.out rfl)
         have hbp6:Blk w6 w3.heap.size 100 #[.int .i64 (f1:Int),.int .i64 (e1:Int)]:=(HGR6.out.block w3.heap.size (Nat.lt_of_lt_of_le hbpl HX1.out.size) (by intro he;have he2:w3.heap.size=g5:=Option.some.inj he;have:=(ownsRow_blt HRS.out g5 rfl).2;omega)).trans (HBP.out.ext HX1.out)
         obtain ⟨y0,y1⟩:=hbp6.two'
         have HS6:Hid (RowP w.heap.size w6 (.slice (some ⟨g6,0,none⟩) (mk+1) c6) (mk+1) (st.take mk++[(f1,e1)])):=Lib.hid (by unfold RowP;rw [prC_append,prC_one,←prC_take];exact HO6.out)
         have HRO2:Hid ((w6.alloc (.cells #[.int .i64 (f1:Int),.int .i64 (e1:Int)] 100)).ownsRow w.heap.size 100 2 (.slice A4 i c4) i (prC all)):=Lib.hid (ownsRow_below HTR.out.1 (fun k _ hk=>Below.heap_alloc w6 _ k hk))
         have HNW2:=Lib.hid (newsL w6 100 [.int .i64 (f1:Int),.int .i64 (e1:Int)])
         have HB4:Hid (i+1≤maxLen):=Lib.hid (by unfold maxLen;omega)
         have HB5:Hid ((i+1)*16≤140737488355328):=Lib.hid (by omega)
         have hgw6:w.heap.size≤w6.heap.size:=Nat.le_trans hgw HTR.out.2.2.size
         have HB6:Hid (w.heap.size≤(w6.alloc (.cells #[.int .i64 (f1:Int),.int .i64 (e1:Int)] 100)).heap.size):=Lib.hid (by simp;omega)
         clear hbp6 p0 p1
         go_wp2_with (at_builtin;go_must (refine wpList_append_lies _ rfl _ _ 96 rfl w.heap.size 100 i0 _ 2 16 Tryz.underlying96 hi hz0 hz1 hz2 rfl (by decide) (.slice A4 i c4) i (prC all) rfl HRO2.out ⟨w6.heap.size,0,none⟩ 1 1 [.int .i64 (f1:Int),.int .i64 (e1:Int)] rfl rfl HNW2.out (by simp [Value.oneCell']) (by decide) HB4.out HB5.out HB6.out _ rfl ?_;intro g7 c7 w7 hown7 hgr7 hat7 hlt7;have HTS:=Lib.hid (two_own (u':= .slice (some ⟨g7,0,none⟩) (i+1) c7) HTR.out.1 HS6.out (fun g h1 h2=>HTR.out.2.1 g h2 h1) ((Ext.refl w6).alloc _) hgw6 hgr7 hat7 rfl);have HA7:Hid (RowP w.heap.size w7 (.slice (some ⟨g7,0,none⟩) (i+1) c7) (i+1) (all++[(f1,e1)])):=Lib.hid (by unfold RowP;rw [prC_append,prC_one];exact hown7);clear hown7 hgr7 hat7))
         go_wp2_with fail
         go_roundw
         case rel=>exact ⟨i+1,_,_,by omega,by go_num,HI.out.next HND.out HSQ.out HA7.out HTS.out.1 HMKL.out HTS.out.2.1 ((HX.out.trans HX4.out).more (HTR.out.2.2.trans HTS.out.2.2)) (by have:=HBD.out;exact this)⟩
         case measure=>simp [intOf];omega
       ·have HNO:=Lib.hid (HBAD.out (prStep_1bad hop (fun h=>hb2 h.2)))
        rw [hop] at HOP
        clear hop HBAD
        go_wp2_with fail
        refine (HOP.out _).mono ?_
        rintro e w2 ⟨rfl,rfl⟩
        go_wp2_with fail
        refine (HPL.out _ (HMW.out.ext HXA.out)).mono ?_
        rintro e w3 ⟨rfl,hx3⟩
        obtain ⟨q0,q1,q2,q3,q4⟩:=(HBN.out.ext hx3).five
        have hws:=(HBN.out.ext hx3).lt
        have hws1:wr.heap.size<w3.heap.size+1:=by omega
        have hws2:wr.heap.size<w3.heap.size+1+1:=by omega
        have hws3:wr.heap.size<w3.heap.size+1+1+1:=by omega
        have HX3:=Lib.hid (HXA.out.trans hx3)
        clear hx3
        have hg5w:=(ownsRow_blt (HRS.out.ext HX3.out) g5 rfl).2
        have hg5a:g5<w3.heap.size+1:=by omega
        have hg5b:g5<w3.heap.size+1+1:=by omega
        have hg5c:g5<w3.heap.size+1+1+1:=by omega
        obtain ⟨c51,c52⟩:=HCL1.out w3 (HRS.out.ext HX3.out)
        go_wp2_with fail
        go_ret2
        exact ⟨_,by rw [HNO.out];rfl,HX.out.trans (HX3.out.trans (((((Ext.refl w3).alloc _).alloc _).alloc _))),by rw [HNO.out,HFA.out];exact HRA.out.ext (HX3.out.trans (((((Ext.refl w3).alloc _).alloc _).alloc _)))⟩
      ·have HNO:=Lib.hid (HBAD.out (prStep_1bad hop (fun h=>ha (h.1.trans HZI.out.symm))))
       rw [hop] at HOP
       clear hop HBAD
       go_wp2_with fail
       refine (HOP.out _).mono ?_
       rintro e w2 ⟨rfl,rfl⟩
       go_wp2_with fail
       refine (HPL.out _ (HMW.out.ext HXA.out)).mono ?_
       rintro e w3 ⟨rfl,hx3⟩
       obtain ⟨q0,q1,q2,q3,q4⟩:=(HBN.out.ext hx3).five
       have hws:=(HBN.out.ext hx3).lt
       have hws1:wr.heap.size<w3.heap.size+1:=by omega
       have hws2:wr.heap.size<w3.heap.size+1+1:=by omega
       have hws3:wr.heap.size<w3.heap.size+1+1+1:=by omega
       have HX3:=Lib.hid (HXA.out.trans hx3)
       clear hx3
       have hg5w:=(ownsRow_blt (HRS.out.ext HX3.out) g5 rfl).2
       have hg5a:g5<w3.heap.size+1:=by omega
       have hg5b:g5<w3.heap.size+1+1:=by omega
       have hg5c:g5<w3.heap.size+1+1+1:=by omega
       obtain ⟨c51,c52⟩:=HCL1.out w3 (HRS.out.ext HX3.out)
       go_wp2_with fail
       go_ret2
       exact ⟨_,by rw [HNO.out];rfl,HX.out.trans (HX3.out.trans (((((Ext.refl w3).alloc _).alloc _).alloc _))),by rw [HNO.out,HFA.out];exact HRA.out.ext (HX3.out.trans (((((Ext.refl w3).alloc _).alloc _).alloc _)))⟩
   ·by_cases hmf:ms<2
    ·have hfd:decide (ms<2)=true:=decide_eq_true hmf
     have HNO:=Lib.hid (HBAD.out (prStep_few (by rw [hop,←HMS.out];omega)))
     have hfw:((ms:Int)<2):=by omega
     rw [hop] at HOP
     clear hop hp HBAD
     go_wp2_with fail
     refine (HOP.out _).mono ?_
     rintro e w2 ⟨rfl,rfl⟩
     go_wp2_with fail
     go_ret2
     exact ⟨_,by rw [HNO.out];rfl,HX.out.trans HXA.out,by rw [HNO.out,HFA.out];exact HRA.out.ext HXA.out⟩
    ·have hm1:2≤ms:=by omega
     have hm1d:decide (ms<2)=false:=decide_eq_false hmf
     have hm1i:¬(ms:Int)<2:=by omega
     cases hpb:p
     ·rw [hpb] at hp HPL
      have HNO:=Lib.hid (HBAD.out (prStep_plain hp.symm))
      rw [hop] at HOP
      clear hop hp HBAD hpb
      go_wp2_with fail
      refine (HOP.out _).mono ?_
      rintro e w2 ⟨rfl,rfl⟩
      go_wp2_with fail
      refine (HPL.out _ (HMW.out.ext HXA.out)).mono ?_
      rintro e w3 ⟨rfl,hx3⟩
      obtain ⟨q0,q1,q2,q3,q4⟩:=(HBN.out.ext hx3).five
      have hws:=(HBN.out.ext hx3).lt
      have hws1:wr.heap.size<w3.heap.size+1:=by omega
      have hws2:wr.heap.size<w3.heap.size+1+1:=by omega
      have hws3:wr.heap.size<w3.heap.size+1+1+1:=by omega
      have HX3:=Lib.hid (HXA.out.trans hx3)
      clear hx3
      go_wp2_with fail
      go_ret2
      exact ⟨_,by rw [HNO.out];rfl,HX.out.trans HX3.out,by rw [HNO.out,HFA.out];exact HRA.out.ext HX3.out⟩
     ·rw [hpb] at hp HPL
      have HPB:=Lib.hid hp.symm
      clear hpb hp
      obtain ⟨g5,d5,he5,hbg5,hlg5⟩:=HRS.out.form (by omega)
      injection he5 with he5 hx5 hy5
      subst he5
      clear hx5 hy5
      obtain ⟨z1,hz1'⟩:∃z1:Int,z1=(ms:Int)-1:=⟨_,rfl⟩
      have hj1:z1.toNat=ms-1:=by omega
      have hwz1:IntKind.i64.wrap ((ms:Int)-1)=z1:=by rw [IntWalk.i64_in _ (by omega),hz1']
      have hz1a:(0:Int)≤z1:=by omega
      have hz1b:z1<(ms:Int):=by omega
      obtain ⟨f1,hf1⟩:∃f1,f1=(st.getD (ms-1) (0,0)).1:=⟨_,rfl⟩
      obtain ⟨d1,hd1⟩:∃d1,d1=(st.getD (ms-1) (0,0)).2:=⟨_,rfl⟩
      have hlo1:=HLOW.out (ms-1) (by omega)
      rw [←hf1,←hd1] at hlo1
      have HCL1:Hid (∀W,RowP w.heap.size W (.slice (some ⟨g5,0,none⟩) ms c5) ms st→W.cell? ⟨g5,z1.toNat*2,none⟩=some (.int .i64 (f1:Int))∧W.cell? ⟨g5,z1.toNat*2+1,none⟩=some (.int .i64 (d1:Int))):=Lib.hid (fun W h=>by rw [hj1,hf1,hd1];exact h.get (ms-1) (by omega))
      have HF1:=Lib.hid hf1
      have HD1:=Lib.hid hd1
      obtain ⟨zi,hzi⟩:∃zi:Int,zi=(i:Int)-1:=⟨_,rfl⟩
      have hwzi:IntKind.i64.wrap ((i:Int)-1)=zi:=by rw [IntWalk.i64_in _ (by omega),hzi]
      have HZI:=Lib.hid hzi
      have hwd1:IntKind.i64.wrap ((d1:Int)+1)=((d1+1:Nat):Int):=by rw [IntWalk.i64_in _ (by omega)];omega
      obtain ⟨e1,he1⟩:∃e1,e1=d1+1:=⟨_,rfl⟩
      rw [←he1] at hwd1
      have HE1:=Lib.hid he1
      have HZD1:=Lib.hid hz1'
      clear hf1 hd1 hzi he1 hz1' hj1
      obtain ⟨z2,hz2'⟩:∃z2:Int,z2=(ms:Int)-2:=⟨_,rfl⟩
      have hj2:z2.toNat=ms-2:=by omega
      have hwz2:IntKind.i64.wrap ((ms:Int)-2)=z2:=by rw [IntWalk.i64_in _ (by omega),hz2']
      have hz2a:(0:Int)≤z2:=by omega
      have hz2b:z2<(ms:Int):=by omega
      obtain ⟨f2,hf2⟩:∃f2,f2=(st.getD (ms-2) (0,0)).1:=⟨_,rfl⟩
      obtain ⟨d2,hd2⟩:∃d2,d2=(st.getD (ms-2) (0,0)).2:=⟨_,rfl⟩
      have hlo2:=HLOW.out (ms-2) (by omega)
      rw [←hf2,←hd2] at hlo2
      have HCL2:Hid (∀W,RowP w.heap.size W (.slice (some ⟨g5,0,none⟩) ms c5) ms st→W.cell? ⟨g5,z2.toNat*2,none⟩=some (.int .i64 (f2:Int))∧W.cell? ⟨g5,z2.toNat*2+1,none⟩=some (.int .i64 (d2:Int))):=Lib.hid (fun W h=>by rw [hj2,hf2,hd2];exact h.get (ms-2) (by omega))
      have HF2:=Lib.hid hf2
      have HD2:=Lib.hid hd2
      have hwd2:IntKind.i64.wrap ((d2:Int)+1)=((d2+1:Nat):Int):=by rw [IntWalk.i64_in _ (by omega)];omega
      obtain ⟨e2,he2⟩:∃e2,e2=d2+1:=⟨_,rfl⟩
      rw [←he2] at hwd2
      have HE2:=Lib.hid he2
      obtain ⟨mx,hmx0⟩:∃mx,mx=max e1 e2:=⟨_,rfl⟩
      have hmx:max (e1:Int) (e2:Int)=(mx:Int):=by omega
      have HMX:=Lib.hid hmx0
      obtain ⟨zf,hzf⟩:∃zf:Int,zf=(f1:Int)-1:=⟨_,rfl⟩
      have hwzf:IntKind.i64.wrap ((f1:Int)-1)=zf:=by rw [IntWalk.i64_in _ (by omega),hzf]
      have HZF:=Lib.hid hzf
      have HZD2:=Lib.hid hz2'
      clear hf2 hd2 he2 hz2' hj2 hmx0 hzf
      by_cases ha:na=zf
      ·subst ha
       by_cases hb2:nb=zi
       ·subst hb2
        have HSP:Hid (prStep i st ⟨kd,na,nb,nn,nt⟩=some ((f2,mx),st.take (ms-2)++[(f2,mx)])):=Lib.hid (by
         have h:=prStep_2 (i:=i) (st:=st) (n:=nn) (t:=nt) hop (by rw [←HMS.out,←HF1.out,←HZF.out,←HZI.out];exact HPB.out) (by rw [←HMS.out];omega)
         rw [←HMS.out,←HF1.out,←HZF.out,←HZI.out,←HF2.out,←HD1.out,←HD2.out,←HE1.out,←HE2.out,←HMX.out] at h
         exact h)
        have HBD:Hid (f2≤i+1∧mx≤i+1):=Lib.hid ⟨by omega,by rw [HMX.out,HE1.out,HE2.out];omega⟩
        have hmxb:mx≤1000002:=by rw [HMX.out,HE1.out,HE2.out];omega
        rw [hop] at HOP
        clear hop HBAD
        go_wp2_with fail
        refine (HOP.out _).mono ?_
        rintro e w2 ⟨rfl,rfl⟩
        go_wp2_with fail
        refine (HPL.out _ (HMW.out.ext HXA.out)).mono ?_
        rintro e w3 ⟨rfl,hx3⟩
        obtain ⟨q0,q1,q2,q3,q4⟩:=(HBN.out.ext hx3).five
        have hws:=(HBN.out.ext hx3).lt
        have hws1:wr.heap.size<w3.heap.size+1:=by omega
        have hws2:wr.heap.size<w3.heap.size+1+1:=by omega
        have hws3:wr.heap.size<w3.heap.size+1+1+1:=by omega
        have HX3:=Lib.hid (HXA.out.trans hx3)
        clear hx3
        have hg5w:=(ownsRow_blt (HRS.out.ext HX3.out) g5 rfl).2
        have hg5a:g5<w3.heap.size+1:=by omega
        have hg5b:g5<w3.heap.size+1+1:=by omega
        have hg5c:g5<w3.heap.size+1+1+1:=by omega
        obtain ⟨c51,c52⟩:=HCL1.out w3 (HRS.out.ext HX3.out)
        obtain ⟨c53,c54⟩:=HCL2.out w3 (HRS.out.ext HX3.out)
        go_upto_region 20 with fail
        have hcp:ms≤c5:=by
         rcases HRS.out.2 with ⟨he,h0⟩|⟨g5',cap5,cur5,he,_,_,hcp,_⟩
         ·cases he
         ·injection he with he1 he2 he3;rw [he3];exact hcp
        obtain ⟨w4,hw4⟩:∃w4,w4=(((w3.alloc (.cells #[.int .i64 (f2:Int),.int .i64 (mx:Int)] 100)).alloc (.cells #[.int .i64 kd,.int .i64 na,.int .i64 nb,.int .i64 nn,.string s] 50)).alloc (.cells #[.int .i64 (f1:Int),.int .i64 (d1:Int)] 100)).alloc (.cells #[.int .i64 (f2:Int),.int .i64 (d2:Int)] 100):=⟨_,rfl⟩
        rw [←hw4]
        have hx34:Ext w3 w4:=by rw [hw4];exact (((((Ext.refl w3).alloc _).alloc _).alloc _).alloc _)
        have hbp:Blk w4 w3.heap.size 100 #[.int .i64 (f2:Int),.int .i64 (mx:Int)]:=by rw [hw4];exact ((((Blk.new w3 _ _).alloc _).alloc _).alloc _)
        have HX4:=Lib.hid (HX3.out.trans hx34)
        have HBP:=Lib.hid hbp
        obtain ⟨p0,p1⟩:=hbp.two'
        obtain ⟨mk,hmk⟩:∃mk,mk=ms-2:=⟨_,rfl⟩
        have hzc:z2≤(c5:Int):=by have:=HZD2.out;omega
        have hzt:z2.toNat=mk:=by have:=HZD2.out;omega
        have hgw:w.heap.size≤w4.heap.size:=Nat.le_trans HX.out.size HX4.out.size
        have HS4:=Lib.hid (ownsRow_take (m:=mk) (HRS.out.ext HX4.out) (by omega))
        have HA4:=Lib.hid (HRA.out.ext HX4.out)
        have hbpl:=hbp.lt
        have hgpr:wr.heap.size≤w3.heap.size:=HX3.out.size
        have HMKL:Hid (mk≤st.length):=Lib.hid (by rw [←HMS.out];omega)
        have HSQ:Hid (prStep i st ⟨kd,na,nb,nn,nt⟩=some ((f2,mx),st.take mk++[(f2,mx)])):=Lib.hid (by rw [hmk];exact HSP.out)
        have HRO:Hid ((w4.alloc (.cells #[.int .i64 (f2:Int),.int .i64 (mx:Int)] 100)).drew.ownsRow w.heap.size 100 2 (.slice (some ⟨g5,0,none⟩) mk c5) mk ((prC st).take (mk*2))):=Lib.hid (ownsRow_below HS4.out (fun k _ hk=>Below.heap_alloc w4 _ k hk))
        have HNW:Hid (∀(j:Nat) (u:Value),[Value.int .i64 (f2:Int),Value.int .i64 (mx:Int)][j]? =some u→(w4.alloc (.cells #[.int .i64 (f2:Int),.int .i64 (mx:Int)] 100)).drew.cell? ((⟨w4.heap.size,0,none⟩:Addr).add j)=some u):=Lib.hid (newsL w4 100 [.int .i64 (f2:Int),.int .i64 (mx:Int)])
        have HB1:Hid (mk+1≤maxLen):=Lib.hid (by unfold maxLen;omega)
        have HB2:Hid ((mk+1)*16≤140737488355328):=Lib.hid (by omega)
        have HB3:Hid (w.heap.size≤(w4.alloc (.cells #[.int .i64 (f2:Int),.int .i64 (mx:Int)] 100)).drew.heap.size):=Lib.hid (by simp;omega)
        clear hw4 hbp hx34 hmk q0 q1 q2 q3 q4
        go_region_law (refine step_append_lies _ rfl (.tmp 96) (.tmp 98) 96 rfl w.heap.size 100 i0 _ 2 16 Tryz.underlying96 hi hz0 hz1 hz2 rfl (by decide) _ mk ((prC st).take (mk*2)) rfl HRO.out ⟨w4.heap.size,0,none⟩ 1 1 [.int .i64 (f2:Int),.int .i64 (mx:Int)] rfl rfl HNW.out (by simp [Value.oneCell']) (by decide) HB1.out HB2.out HB3.out _ rfl ?_;intro g6 c6 w6 hown6 hgr6 hat6 hlt6;have HO6:=Lib.hid hown6;have HGR6:=Lib.hid hgr6;have HAT6:=Lib.hid hat6;clear hown6 hgr6 hat6)
        all_goals
         have HX1:Hid (Ext w4 (w4.alloc (.cells #[.int .i64 (f2:Int),.int .i64 (mx:Int)] 100)).drew):=Lib.hid ((Ext.refl w4).alloc _).drew
         have HTR:=Lib.hid (two_own (u':= .slice (some ⟨g6,0,none⟩) (mk+1) c6) HS4.out HA4.out (fun g h1 h2=>HI.out.apart g h2 h1) HX1.out hgw HGR6.out HAT6.out rfl)
         have hbp6:Blk w6 w3.heap.size 100 #[.int .i64 (f2:Int),.int .i64 (mx:Int)]:=(HGR6.out.block w3.heap.size (Nat.lt_of_lt_of_le hbpl HX1.out.size) (by intro he;have he2:w3.heap.size=g5:=Option.some.inj he;have:=(ownsRow_blt HRS.out g5 rfl).2;omega)).trans (HBP.out.ext HX1.out)
         obtain ⟨y0,y1⟩:=hbp6.two'
         have HS6:Hid (RowP w.heap.size w6 (.slice (some ⟨g6,0,none⟩) (mk+1) c6) (mk+1) (st.take mk++[(f2,mx)])):=Lib.hid (by unfold RowP;rw [prC_append,prC_one,←prC_take];exact HO6.out)
         have HRO2:Hid ((w6.alloc (.cells #[.int .i64 (f2:Int),.int .i64 (mx:Int)] 100)).ownsRow w.heap.size 100 2 (.slice A4 i c4) i (prC all)):=Lib.hid (ownsRow_below HTR.out.1 (fun k _ hk=>Below.heap_alloc w6 _ k hk))
         have HNW2:=Lib.hid (newsL w6 100 [.int .i64 (f2:Int),.int .i64 (mx:Int)])
         have HB4:Hid (i+1≤maxLen):=Lib.hid (by unfold maxLen;omega)
         have HB5:Hid ((i+1)*16≤140737488355328):=Lib.hid (by omega)
         have hgw6:w.heap.size≤w6.heap.size:=Nat.le_trans hgw HTR.out.2.2.size
         have HB6:Hid (w.heap.size≤(w6.alloc (.cells #[.int .i64 (f2:Int),.int .i64 (mx:Int)] 100)).heap.size):=Lib.hid (by simp;omega)
         clear hbp6 p0 p1
         go_wp2_with (at_builtin;go_must (refine wpList_append_lies _ rfl _ _ 96 rfl w.heap.size 100 i0 _ 2 16 Tryz.underlying96 hi hz0 hz1 hz2 rfl (by decide) (.slice A4 i c4) i (prC all) rfl HRO2.out ⟨w6.heap.size,0,none⟩ 1 1 [.int .i64 (f2:Int),.int .i64 (mx:Int)] rfl rfl HNW2.out (by simp [Value.oneCell']) (by decide) HB4.out HB5.out HB6.out _ rfl ?_;intro g7 c7 w7 hown7 hgr7 hat7 hlt7;have HTS:=Lib.hid (two_own (u':= .slice (some ⟨g7,0,none⟩) (i+1) c7) HTR.out.1 HS6.out (fun g h1 h2=>HTR.out.2.1 g h2 h1) ((Ext.refl w6).alloc _) hgw6 hgr7 hat7 rfl);have HA7:Hid (RowP w.heap.size w7 (.slice (some ⟨g7,0,none⟩) (i+1) c7) (i+1) (all++[(f2,mx)])):=Lib.hid (by unfold RowP;rw [prC_append,prC_one];exact hown7);clear hown7 hgr7 hat7))
         go_wp2_with fail
         go_roundw
         case rel=>exact ⟨i+1,_,_,by omega,by go_num,HI.out.next HND.out HSQ.out HA7.out HTS.out.1 HMKL.out HTS.out.2.1 ((HX.out.trans HX4.out).more (HTR.out.2.2.trans HTS.out.2.2)) (by have:=HBD.out;exact this)⟩
         case measure=>simp [intOf];omega
       ·have HNO:=Lib.hid (HBAD.out (prStep_2bad hop (fun h=>hb2 (h.2.trans HZI.out.symm))))
        rw [hop] at HOP
        clear hop HBAD
        go_wp2_with fail
        refine (HOP.out _).mono ?_
        rintro e w2 ⟨rfl,rfl⟩
        go_wp2_with fail
        refine (HPL.out _ (HMW.out.ext HXA.out)).mono ?_
        rintro e w3 ⟨rfl,hx3⟩
        obtain ⟨q0,q1,q2,q3,q4⟩:=(HBN.out.ext hx3).five
        have hws:=(HBN.out.ext hx3).lt
        have hws1:wr.heap.size<w3.heap.size+1:=by omega
        have hws2:wr.heap.size<w3.heap.size+1+1:=by omega
        have hws3:wr.heap.size<w3.heap.size+1+1+1:=by omega
        have HX3:=Lib.hid (HXA.out.trans hx3)
        clear hx3
        have hg5w:=(ownsRow_blt (HRS.out.ext HX3.out) g5 rfl).2
        have hg5a:g5<w3.heap.size+1:=by omega
        have hg5b:g5<w3.heap.size+1+1:=by omega
        have hg5c:g5<w3.heap.size+1+1+1:=by omega
        obtain ⟨c51,c52⟩:=HCL1.out w3 (HRS.out.ext HX3.out)
        obtain ⟨c53,c54⟩:=HCL2.out w3 (HRS.out.ext HX3.out)
        go_wp2_with fail
        go_ret2
        exact ⟨_,by rw [HNO.out];rfl,HX.out.trans (HX3.out.trans ((((((Ext.refl w3).alloc _).alloc _).alloc _).alloc _))),by rw [HNO.out,HFA.out];exact HRA.out.ext (HX3.out.trans ((((((Ext.refl w3).alloc _).alloc _).alloc _).alloc _)))⟩
      ·have HNO:=Lib.hid (HBAD.out (prStep_2bad hop (fun h=>ha (h.1.trans (by rw [←HMS.out,←HF1.out];exact HZF.out.symm)))))
       rw [hop] at HOP
       clear hop HBAD
       go_wp2_with fail
       refine (HOP.out _).mono ?_
       rintro e w2 ⟨rfl,rfl⟩
       go_wp2_with fail
       refine (HPL.out _ (HMW.out.ext HXA.out)).mono ?_
       rintro e w3 ⟨rfl,hx3⟩
       obtain ⟨q0,q1,q2,q3,q4⟩:=(HBN.out.ext hx3).five
       have hws:=(HBN.out.ext hx3).lt
       have hws1:wr.heap.size<w3.heap.size+1:=by omega
       have hws2:wr.heap.size<w3.heap.size+1+1:=by omega
       have hws3:wr.heap.size<w3.heap.size+1+1+1:=by omega
       have HX3:=Lib.hid (HXA.out.trans hx3)
       clear hx3
       have hg5w:=(ownsRow_blt (HRS.out.ext HX3.out) g5 rfl).2
       have hg5a:g5<w3.heap.size+1:=by omega
       have hg5b:g5<w3.heap.size+1+1:=by omega
       have hg5c:g5<w3.heap.size+1+1+1:=by omega
       obtain ⟨c51,c52⟩:=HCL1.out w3 (HRS.out.ext HX3.out)
       obtain ⟨c53,c54⟩:=HCL2.out w3 (HRS.out.ext HX3.out)
       go_wp2_with fail
       go_ret2
       exact ⟨_,by rw [HNO.out];rfl,HX.out.trans (HX3.out.trans ((((((Ext.refl w3).alloc _).alloc _).alloc _).alloc _))),by rw [HNO.out,HFA.out];exact HRA.out.ext (HX3.out.trans ((((((Ext.refl w3).alloc _).alloc _).alloc _).alloc _)))⟩
  ·obtain rfl:i=n:=by omega
   have hgo:=hinv.go
   rw [List.drop_eq_nil_of_le (by rw [←HN.out];exact Nat.le_refl _),prGo,←HMS.out] at hgo
   have HGO:=Lib.hid hgo
   have HX:=Lib.hid hinv.ext
   have HRA:=Lib.hid hinv.ra
   have HFA:=Lib.hid hinv.ra.len
   clear hinv hgo
   go_wp2_with fail
   go_ret2
   exact ⟨_,by rw [HGO.out];rfl,HX.out,by rw [HGO.out,HFA.out];exact HRA.out⟩
end Big
end Go.Proofs.YtaccjdbbkmhanaaGreatDoor
namespace Go.Proofs.YtaccjdbbkmhanaaGreatDoor
namespace Big
open Go.RowKit
theorem prGo_len (l:List Nd):∀(i:Nat) (all st:List (Nat × Nat)),(prGo i all st l).2≠0→(prGo i all st l).1.length=all.length+l.length:=by
 induction l with
 |nil=>intro i all st _;rfl
 |cons x t ih=>
  intro i all st h
  rw [prGo] at h ⊢
  cases hs:prStep i st x with
  |none=>rw [hs] at h;exact absurd rfl h
  |some q=>
   obtain ⟨p,st'⟩:=q
   rw [hs] at h
   simp only at h ⊢
   rw [ih _ _ _ h,List.length_append,List.length_cons]
   simp
   omega
set_option maxRecDepth 100000 in
theorem pvalid_any (w:World) (v:Value) (l:List Nd) (hr:RNd w v l) (hl:l.length≤1000000) (htx:∀x∈l,x.text.length≤1073741824) (hm:MaxV w):Calls Tryz.prog 28 #[v] w fun e w'=>e= .returned (.bool (validP l))∧Ext w w':=by
 have HS:=Lib.hid (parts_any w v l hr hl htx hm)
 have HV:Hid (validP l=(decide (1≤l.length∧l.length≤200) && (decide ((prAll l).2=1) && decide (((prAll l).1.getD (l.length-1) (0,0)).2≤40)))):=Lib.hid rfl
 have HPL:Hid ((prAll l).2≠0→(prAll l).1.length=l.length):=Lib.hid (fun h=>by have:=prGo_len l 0 [] [] h;rw [List.length_nil,Nat.zero_add] at this;exact this)
 obtain ⟨A,c,rfl,_⟩:=hr
 generalize validP l=r at *
 clear htx hm
 obtain ⟨n,hn⟩:∃n,n=l.length:=⟨_,rfl⟩
 rw [←hn] at hl HV HS HPL ⊢
 clear hn
 by_cases h1:n<1
 ·obtain rfl:n=0:=by omega
  clear HS h1 HPL
  go_enter Tryz.func28,Tryz.ntmps28
  go_wp2_with fail
  go_ret
  exact ⟨by rw [HV.out];rfl,Ext.refl w⟩
 ·have h1c:¬((n:Int)<1):=by omega
  by_cases h2:200<n
  ·have h2c:(200:Int)<(n:Int):=by omega
   have hd:decide (1≤n∧n≤200)=false:=decide_eq_false (by omega)
   rw [hd] at HV
   clear HS h1 h2 hd HPL
   go_enter Tryz.func28,Tryz.ntmps28
   go_wp2_with fail
   go_ret
   exact ⟨by rw [HV.out];rfl,Ext.refl w⟩
  ·have h2c:¬(200:Int)<(n:Int):=by omega
   have hd:decide (1≤n∧n≤200)=true:=decide_eq_true (by omega)
   rw [hd,Bool.true_and] at HV
   have h1n:1≤n:=by omega
   clear h1 h2 hd
   unfold PartsPost at HS
   generalize (prAll l).2=cnt at *
   generalize (prAll l).1=all at *
   go_enter Tryz.func28,Tryz.ntmps28
   go_wp2_with fail
   refine HS.out.mono ?_
   rintro e w1 ⟨v1,rfl,hx,hrow⟩
   have HX:=Lib.hid hx
   have HRW:=Lib.hid hrow
   obtain ⟨A4,c4,rfl⟩:=ownsRow_shape hrow
   clear hx hrow
   by_cases hc1:cnt=1
   ·subst hc1
    have hal:=HPL.out (by decide)
    obtain ⟨g4,d4,he4,_,_⟩:=HRW.out.form (by omega)
    injection he4 with he4 he5 he6
    subst he4
    clear he5 he6
    have hrw:=HRW.out
    rw [hal] at hrw
    have hcell:=(RowP.get hrw (n-1) (by omega)).2
    obtain ⟨y,hy⟩:∃y:Int,y=(n:Int)-1:=⟨_,rfl⟩
    have hj:y.toNat=n-1:=by omega
    rw [←hj] at hcell HV
    have hw:IntKind.i64.wrap ((n:Int)-1)=y:=by rw [IntWalk.i64_in _ (by omega),hy]
    have hq0:(0:Int)≤y:=by omega
    have hq1:y<(n:Int):=by omega
    have hdv:decide ((all.getD y.toNat (0,0)).2≤40)=decide (((all.getD y.toNat (0,0)).2:Int)≤40):=by rw [decide_eq_decide];omega
    have HDV:Hid (r=decide (((all.getD y.toNat (0,0)).2:Int)≤40)):=Lib.hid (by rw [HV.out,←hdv];rfl)
    generalize (all.getD y.toNat (0,0)).2=dv at *
    rw [hal]
    clear hrw hj hy hdv hal HV HPL
    go_wp2_with fail
    go_ret
    exact ⟨by rw [HDV.out];rfl,HX.out⟩
   ·have hcb:((cnt:Int) == 1)=false:=by rw [beq_eq_false_iff_ne];omega
    have HR0:Hid (r=false):=Lib.hid (by rw [HV.out,decide_eq_false hc1];rfl)
    generalize all.length=m at *
    clear hc1 HV HPL
    generalize (cnt:Int)=cz at *
    go_wp2_with fail
    go_ret
    exact ⟨by rw [HR0.out];rfl,HX.out⟩
theorem flat_text_well (e:Ex) (hg:e.Well):∀off,∀x∈flat off e,x.text.length≤1073741824:=by
 induction e with
 |leaf k t=>
  intro off x hx
  rw [flat,List.mem_singleton] at hx
  subst hx
  rcases hg with ⟨_,h⟩|⟨_,h⟩|⟨_,rfl⟩
  ·have:=code7_le h
   simp only;omega
  ·have:=wordB_le (Bool.and_eq_true_iff.1 h).1
   simp only;omega
  ·simp
 |un k n x ih=>
  intro off y hy
  rw [flat,List.mem_append,List.mem_singleton] at hy
  rcases hy with hy|rfl
  ·exact ih hg.2.2.2.2 off y hy
  ·simp
 |bin k x z ihx ihy=>
  intro off y hy
  rw [flat,List.mem_append,List.mem_append,List.mem_singleton] at hy
  rcases hy with hy|hy|rfl
  ·exact ihx hg.2.1 _ y hy
  ·exact ihy hg.2.2 _ y hy
  ·simp
def parseR (s:List UInt8):Option Ex × Nat × Nat:=
 if (scanT s).2.2≠0 then (none,(scanT s).2.1,(scanT s).2.2)
 else if (pSum (scanT s).1 ((scanT s).1.length+1) 0).2<(scanT s).1.length then (none,((scanT s).1.getD (pSum (scanT s).1 ((scanT s).1.length+1) 0).2 ⟨0,0,[]⟩).at_,6)
 else match (pSum (scanT s).1 ((scanT s).1.length+1) 0).1 with
  |none=>(none,s.length,6)
  |some x=>if x.big=false∧x.size≤200∧x.depth≤40 then (some x,s.length,0) else (none,0,7)
def exNodes:Option Ex→List Nd
 |none=>[]
 |some x=>flat 0 x
def ParseP (w:World) (s:List UInt8) (e:Ending) (w':World):Prop:=
 ∃v,e= .returned (.tuple #[v,.int .i64 ((parseR s).2.1:Int),.int .i64 ((parseR s).2.2:Int)])∧Ext w w'∧RNd w' v (exNodes (parseR s).1)
theorem RNd.nil (w:World):RNd w (.slice none 0 0) []:=⟨none,0,rfl,fun h=>by simp at h⟩
end Big
end Go.Proofs.YtaccjdbbkmhanaaGreatDoor
namespace Go.Proofs.YtaccjdbbkmhanaaGreatDoor
namespace Big
open Go.RowKit
theorem NdOk.key {i:Nat} {x:Nd} (h:NdOk i x) (hi:i≤1000000):KeyOk x:=by
 have hw:∀n:Int,-1000000≤n→n≤1000000→(Lit.int .i64 n).wf=true:=by
  intro n h1 h2
  have e1:IntKind.i64.min= -9223372036854775808:=by decide
  have e2:IntKind.i64.max=9223372036854775807:=by decide
  simp only [Lit.wf,e1,e2,Bool.and_eq_true,decide_eq_true_eq]
  omega
 have ht:=h.text
 rcases h with ⟨k,t,rfl,ho⟩|⟨k,n,j,rfl,ho,hj⟩|⟨k,j,q,rfl,hk,hj,hq⟩
 ·have:=ho.lt
  exact ⟨hw _ (by simp only;omega) (by simp only;omega),hw 0 (by decide) (by decide),hw 0 (by decide) (by decide),hw 0 (by decide) (by decide),by unfold maxLen;omega⟩
 ·obtain ⟨h1,h2,h3,h4⟩:=ho
  exact ⟨hw _ (by simp only;omega) (by simp only;omega),hw _ (by simp only;omega) (by simp only;omega),hw 0 (by decide) (by decide),hw _ (by simp only;omega) (by simp only;omega),by unfold maxLen;omega⟩
 ·exact ⟨hw _ (by simp only;omega) (by simp only;omega),hw _ (by simp only;omega) (by simp only;omega),hw _ (by simp only;omega) (by simp only;omega),hw 0 (by decide) (by decide),by unfold maxLen;omega⟩
theorem SoundG.keys {ns:List Nd} (h:SoundG ns) (hn:ns.length≤1000000):∀x∈ns,KeyOk x:=by
 intro x hx
 obtain ⟨i,hi,rfl⟩:=List.getElem_of_mem hx
 exact (h.2 i _ (List.getElem?_eq_getElem hi)).key (by omega)
structure GrP (B g b:Nat) (w:World) (ns:List Nd) (nv:Value):Prop where
 blk:Blk w g 38 #[nv,.map (some b)]
 row:OwnNd B w nv ns
 map:NMap w b ns
 lo:B≤g
 lo2:B≤b
 ok:SoundG ns
 few:ns.length≤4096
 low:0<B
theorem MaxV.below {B:Nat} {w w':World} (h:MaxV w) (hb:Below B w w') (hl:0<B):MaxV w':=by
 obtain ⟨m,h⟩:=h
 exact ⟨m,(World.cell?_of_block (a:=⟨0,0,none⟩) (hb.block _ hl)).trans h⟩
structure KG (g b:Nat) (nv nv':Value) (w w':World):Prop where
 os:w'.os=w.os
 tape:w'.tape=w.tape
 output:w'.output=w.output
 size:w.heap.size≤w'.heap.size
 block:∀k,k<w.heap.size→k≠g→k≠b→nv.ownBlock≠some k→w'.heap[k]? =w.heap[k]?
 move:∀j,nv'.ownBlock=some j→nv.ownBlock=some j∨w.heap.size≤j
theorem KG.of_ext {g b:Nat} {nv:Value} {w w':World} (h:Ext w w'):KG g b nv nv w w':=⟨h.os,h.tape,h.output,h.size,fun k hk _ _ _=>h.block k hk,fun _ hj=> .inl hj⟩
theorem KG.trans {g b:Nat} {n1 n2 n3:Value} {w1 w2 w3:World} (h:KG g b n1 n2 w1 w2) (k:KG g b n2 n3 w2 w3):KG g b n1 n3 w1 w3:=
 ⟨k.os.trans h.os,k.tape.trans h.tape,k.output.trans h.output,Nat.le_trans h.size k.size,fun i h1 h2 h3 h4=>
  (k.block i (Nat.lt_of_lt_of_le h1 h.size) h2 h3 (fun e=>by
   rcases h.move i e with h5|h5
   ·exact h4 h5
   ·omega)).trans (h.block i h1 h2 h3 h4),fun j hj=>by
  rcases k.move j hj with h4|h4
  ·exact h.move j h4
  ·exact .inr (Nat.le_trans h.size h4)⟩
theorem KG.blk {g b j:Nat} {n1 n2:Value} {w w':World} {t:TypeId} {cs:Array Value} (h:KG g b n1 n2 w w') (hb:Blk w j t cs) (h1:j≠g) (h2:j≠b) (h3:n1.ownBlock≠some j):Blk w' j t cs:=(h.block j hb.lt h1 h2 h3).trans hb
theorem KG.below {B g b:Nat} {n1 n2:Value} {w w':World} {ns:List Nd} (h:KG g b n1 n2 w w') (hr:GrP B g b w ns n1):Below B w w':=
 ⟨h.os,h.tape,h.output,h.size,fun k hk=>by
  have h1:=hr.blk.lt
  have h2:=hr.lo
  have h3:=hr.lo2
  exact h.block k (by omega) (by omega) (by omega) (fun e=>by have:=ownsRow_block hr.row k e;omega)⟩
theorem GrP.lt {B g b:Nat} {w:World} {ns:List Nd} {nv:Value} (h:GrP B g b w ns nv):g<w.heap.size:=h.blk.lt
theorem GrP.keep {B g b:Nat} {w w':World} {ns:List Nd} {nv:Value} (h:GrP B g b w ns nv) (hx:Ext w w'):GrP B g b w' ns nv:=
 ⟨h.blk.ext hx,h.row.ext hx,h.map.kept (hx.block b h.map.lt),h.lo,h.lo2,h.ok,h.few,h.low⟩
theorem GrP.apart {B g b:Nat} {w:World} {ns:List Nd} {nv:Value} (h:GrP B g b w ns nv):nv.ownBlock≠some b:=by
 intro e
 obtain ⟨es,clock,hb,_⟩:=h.map
 have hr:=h.row
 unfold OwnNd at hr
 rcases hr.2 with ⟨rfl,_⟩|⟨q,cap,cur,rfl,_,hh,_⟩
 ·cases e
 ·simp only [Value.ownBlock,Option.some.injEq] at e
  subst e
  rw [hb] at hh
  cases hh
theorem GrP.apart2 {B g b:Nat} {w:World} {ns:List Nd} {nv:Value} (h:GrP B g b w ns nv):nv.ownBlock≠some g:=by
 intro e
 have hb:=h.blk
 have hr:=h.row
 unfold OwnNd at hr
 unfold Blk at hb
 rcases hr.2 with ⟨rfl,_⟩|⟨q,cap,cur,rfl,_,hh,_⟩
 ·cases e
 ·simp only [Value.ownBlock,Option.some.injEq] at e
  subst e
  rw [hb] at hh
  injection hh with hh
  injection hh with _ hh _
  exact absurd hh (by decide)
theorem GrP.apart3 {B g b:Nat} {w:World} {ns:List Nd} {nv:Value} (h:GrP B g b w ns nv):g≠b:=by
 rintro rfl
 obtain ⟨es,clock,hb,_⟩:=h.map
 have h2:=h.blk
 unfold Blk at h2
 rw [hb] at h2
 cases h2
theorem Blk.twoG {w:World} {g:Nat} {t:TypeId} {a b:Value} (h:Blk w g t #[a,b]):w.cell? ⟨g,0,none⟩=some a∧w.cell? ⟨g,1,none⟩=some b∧w.frozen? ⟨g,0,none⟩=false∧w.frozen? ⟨g,1,none⟩=false∧g<w.heap.size:=
 ⟨h.cell 0,h.cell 1,h.frozen 0,h.frozen 1,h.lt⟩
set_option maxRecDepth 100000 in
theorem glen_any (B g b:Nat) (w:World) (ns:List Nd) (nv:Value) (h:GrP B g b w ns nv):
  Calls Tryz.prog 12 #[.pointer (some ⟨g,0,none⟩)] w fun e w'=>e= .returned (.int .i64 (ns.length:Int))∧w=w':=by
 have hb:=h.blk
 have hn:=h.row
 obtain ⟨A2,c2,rfl⟩:=hn.shape
 obtain ⟨k0,k1,_,_,hg⟩:=hb.twoG
 clear hb hn h
 go_enter Tryz.func12,Tryz.ntmps12
 go_wp2_with fail
 go_ret
 exact ⟨rfl,rfl⟩
end Big
end Go.Proofs.YtaccjdbbkmhanaaGreatDoor
namespace Go.Proofs.YtaccjdbbkmhanaaGreatDoor
namespace Big
open Go.RowKit
theorem second_cell (w:World) (o:Obj) (cs:Array Value) (t:TypeId) (j:Nat):((w.alloc o).alloc (.cells cs t)).cell? ⟨w.heap.size+1,j,none⟩=cs[j]? :=by
 have h:=(Blk.new (w.alloc o) t cs).cell j
 have hs:(w.alloc o).heap.size=w.heap.size+1:=by simp
 rw [hs] at h
 exact h
set_option maxHeartbeats 4000000 in
set_option maxRecDepth 100000 in
theorem operands_leaf (w:World) (k a b n:Int) (s:ByteArray) (hk:k=1∨k=2∨k=3∨k=4):
  Calls Tryz.prog 29 #[.agg #[.int .i64 k,.int .i64 a,.int .i64 b,.int .i64 n,.string s]] w fun e w'=>e= .returned (.tuple #[.slice none 0 0,.bool true])∧Ext w w':=by
 rcases hk with rfl|rfl|rfl|rfl
 all_goals
  go_enter Tryz.func29,Tryz.ntmps29
  go_wp2_with fail
  go_ret2
  exact ⟨rfl,(Ext.refl w).alloc _⟩
set_option maxHeartbeats 4000000 in
set_option maxRecDepth 100000 in
theorem operands_un (w:World) (k a b n:Int) (s:ByteArray) (hk:k=5∨k=10∨k=11∨k=12∨k=13∨k=14∨k=15∨k=16):
  Calls Tryz.prog 29 #[.agg #[.int .i64 k,.int .i64 a,.int .i64 b,.int .i64 n,.string s]] w fun e w'=>∃b,e= .returned (.tuple #[.slice (some ⟨b,0,none⟩) 1 1,.bool true])∧w'.cell? ⟨b,0,none⟩=some (.int .i64 a)∧w.heap.size≤b∧b<w'.heap.size∧Ext w w':=by
 rcases hk with rfl|rfl|rfl|rfl|rfl|rfl|rfl|rfl
 all_goals
  go_enter Tryz.func29,Tryz.ntmps29
  go_wp2_with fail
  go_ret2
  exact ⟨_,rfl,second_cell _ _ _ _ 0,by simp,by simp,((Ext.refl w).alloc _).alloc _⟩
set_option maxHeartbeats 4000000 in
set_option maxRecDepth 100000 in
theorem operands_bin (w:World) (k a b n:Int) (s:ByteArray) (hk:k=6∨k=7∨k=8∨k=9):
  Calls Tryz.prog 29 #[.agg #[.int .i64 k,.int .i64 a,.int .i64 b,.int .i64 n,.string s]] w fun e w'=>∃c,e= .returned (.tuple #[.slice (some ⟨c,0,none⟩) 2 2,.bool true])∧w'.cell? ⟨c,0,none⟩=some (.int .i64 a)∧w'.cell? ⟨c,1,none⟩=some (.int .i64 b)∧w.heap.size≤c∧c<w'.heap.size∧Ext w w':=by
 rcases hk with rfl|rfl|rfl|rfl
 all_goals
  go_enter Tryz.func29,Tryz.ntmps29
  go_wp2_with fail
  go_ret2
  exact ⟨_,rfl,second_cell _ _ _ _ 0,second_cell _ _ _ _ 1,by simp,by simp,((Ext.refl w).alloc _).alloc _⟩
end Big
end Go.Proofs.YtaccjdbbkmhanaaGreatDoor
