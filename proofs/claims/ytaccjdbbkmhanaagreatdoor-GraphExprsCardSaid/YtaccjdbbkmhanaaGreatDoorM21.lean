import Derived.Test.YtaccjdbbkmhanaaGreatDoorM7
import Derived.Test.YtaccjdbbkmhanaaGreatDoorM19
import Derived.Test.YtaccjdbbkmhanaaGreatDoorM10
import Derived.Deep.AppendLies
import Derived.Lib.MinMax
import Derived.Deep.RegionLaw
import Derived.Test.YtaccjdbbkmhanaaGreatDoorM5
import Derived.Test.YtaccjdbbkmhanaaGreatDoorM3
import Derived.Test.YtaccjdbbkmhanaaGreatDoorM6
import Derived.Test.YtaccjdbbkmhanaaGreatDoorShelf
import Derived.Shelf.Strings.SlTrimAscii
namespace Go.Proofs.YtaccjdbbkmhanaaGreatDoor
namespace Big
open Go.RowKit
theorem info_int:(Tryz.prog.info? 3).map (fun i=>(i.zero,i.size,i.bytes))=some (some (.int .i64 0),1,8):=by kernel_rfl
def din (n:Nat):Value:= .int .i64 (n:Int)
def OwnN (B:Nat) (w:World) (v:Value) (l:List Nat):Prop:=ROwn 3 B w v (l.map din)
def ArrN (w:World) (v:Value) (l:List Nat):Prop:=RArr w v (l.map din)
section
variable {w w':World} {v:Value} {l:List Nat} {B B':Nat}
theorem OwnN.nil (B:Nat) (w:World):OwnN B w (.slice none 0 0) []:=ROwn.none_ _ B w
theorem OwnN.ext (h:OwnN B w v l) (hb:Ext w w'):OwnN B w' v l:=ROwn.ext h hb
theorem OwnN.arr (h:OwnN B w v l):ArrN w v l:=ROwn.arr h
theorem ArrN.ext (h:ArrN w v l) (hb:Ext w w'):ArrN w' v l:=RArr.ext h hb
theorem map_din_get {j:Nat} (hj:j<l.length):(l.map din)[j]? =some (din l[j]):=by
 rw [List.getElem?_map,List.getElem?_eq_getElem hj];rfl
theorem ArrN.open (h:ArrN w v l):∃A c,v= .slice A l.length c∧
  (0<l.length→∃b o,A=some ⟨b,o,none⟩∧b<w.heap.size∧∀j (_hj:j<l.length),w.cell? ⟨b,o+j,none⟩=some (.int .i64 ((l.getD j 0:Nat):Int))):=by
 obtain ⟨A,c,rfl,h2,h3,h4⟩:=h
 rw [List.length_map] at h2 h4
 refine ⟨A,c,by rw [List.length_map],fun hp=> ?_⟩
 obtain ⟨b,o,rfl,hlt,hc⟩:=h4 hp
 exact ⟨b,o,rfl,hlt,fun j hj=>by
  rw [hc j _ (map_din_get hj),List.getD_eq_getElem?_getD,List.getElem?_eq_getElem hj];rfl⟩
theorem ones_din:∀u∈l.map din,u.oneCell'=true:=fun u hu=>by
 obtain ⟨x,_,rfl⟩:=List.mem_map.1 hu
 rfl
end
theorem ArrN.fresh1 (w:World) (n:Nat):ArrN (w.alloc (.cells #[.int .i64 (n:Int)] 3)) (.slice (some ⟨w.heap.size,0,none⟩) 1 1) [n]:=RArr.one (by simp [din])
theorem wpList_appendN {w:World} {v src:Value} {xs ys:List Nat} {B:Nat} {ops:Array Oper} {rest:List Oper} {o:Oper} {a:Act} {Q:Exit→Act→World→Prop} (hgd:o.guard=none) (s x:Operand)
  (ho:o.op= .call { callee:= .builtin .append,args:= #[s,x],argTypes:= #[22,22] })
  (hs:a.eval s=v) (hown:OwnN B w v xs) (hx:a.eval x=src) (hsrc:ArrN w src ys) (hn:xs.length+ys.length≤2147483648) (hbase:B≤w.heap.size)
  (h:∀v' w',OwnN B w' v' (xs++ys)→w.grownBy w' (rowOf v)→Below B w w'→wpList Tryz.prog ops Q rest (a.put o.dst v') w'):wpList Tryz.prog ops Q (o::rest) a w:=by
 obtain ⟨i0,hi,hz0,hz1,hz2⟩:=info_parts info_int
 refine wpList_append_any hgd s x 22 ho 3 i0 _ 8 Tryz.underlying22 hi hz0 hz1 hz2 rfl hs hown hx hsrc ones_din (by simp only [List.length_map];unfold maxLen;omega) (by simp only [List.length_map];omega) hbase (fun v' w' h1 h2 h3=>h v' w' ?_ h2 h3)
 unfold OwnN
 rw [List.map_append]
 exact h1
end Big
end Go.Proofs.YtaccjdbbkmhanaaGreatDoor
namespace Go.Proofs.YtaccjdbbkmhanaaGreatDoor
namespace Big
open Go.RowKit
def RowN (B:Nat) (w:World) (v:Value) (n:Nat) (S:List Nat):Prop:=w.ownsRow B 3 1 v n (S.map din)
def Apart (v u:Value):Prop:=∀g,v.ownBlock=some g→u.ownBlock≠some g
theorem RowN.len {B n:Nat} {w:World} {v:Value} {S:List Nat} (h:RowN B w v n S):S.length=n:=by
 have:=h.1
 rw [List.length_map,Nat.mul_one] at this
 exact this
theorem RowN.get {B n g c:Nat} {w:World} {S:List Nat} (h:RowN B w (.slice (some ⟨g,0,none⟩) n c) n S) (j:Nat) (hj:j<n):w.cell? ⟨g,j,none⟩=some (.int .i64 ((S.getD j 0:Nat):Int)):=by
 have h1:=h.cellAt j (by omega)
 have h2:=h.len
 rw [h1,List.getElem?_map,List.getD_eq_getElem?_getD,List.getElem?_eq_getElem (by omega)]
 rfl
theorem RowN.ext {B n:Nat} {w w':World} {v:Value} {S:List Nat} (h:RowN B w v n S) (hx:Ext w w'):RowN B w' v n S:=ownsRow_below h (fun _ _ hg=>Below.block hx _ hg)
theorem RowN.arr {B n:Nat} {w:World} {v:Value} {S:List Nat} (h:RowN B w v n S):ArrN w v S:=by
 have hl:=h.len
 rcases h.2 with ⟨rfl,h2⟩|⟨g,cap,cur,rfl,hb,hg,hc,hm,hs,ht⟩
 ·have:S=[]:=List.eq_nil_of_length_eq_zero (by omega)
  subst this
  exact RArr.none_ w
 ·refine ⟨_,_,by rw [List.length_map,hl],by rw [List.length_map,hl];exact hc,hm,fun _=>⟨g,0,rfl,?_,fun j u hj=> ?_⟩⟩
  ·rcases Nat.lt_or_ge g w.heap.size with h|h
   ·exact h
   ·rw [Array.getElem?_eq_none h] at hg;cases hg
  ·have hjl:j<n:=by
    rcases Nat.lt_or_ge j n with h|h
    ·exact h
    ·rw [List.getElem?_eq_none (by rw [List.length_map];omega)] at hj;cases hj
   rw [Nat.zero_add,h.cellAt j (by omega),hj]
theorem RowN.blt {B n:Nat} {w:World} {v:Value} {S:List Nat} (h:RowN B w v n S) (g:Nat) (hg:v.ownBlock=some g):B≤g∧g<w.heap.size:=by
 rcases h.2 with ⟨rfl,h2⟩|⟨g',cap,cur,rfl,hb,hh,_⟩
 ·cases hg
 ·simp only [Value.ownBlock,Option.some.injEq] at hg
  subst hg
  refine ⟨hb,?_⟩
  rcases Nat.lt_or_ge g' w.heap.size with h|h
  ·exact h
  ·rw [Array.getElem?_eq_none h] at hh;cases hh
theorem two_rows {B n m:Nat} {W w':World} {v u:Value} {S D:List Nat} {o:Obj} {g H:Nat} {u':Value} (h4:RowN B W v n S) (h5:RowN B W u m D) (hap:Apart v u) (hB:B≤W.heap.size)
  (hgr:(W.alloc o).grownBy w' v.ownBlock) (hat:v.ownBlock=some g∨g=H) (hH:(W.alloc o).heap.size=H) (hu:u'.ownBlock=some g):RowN B w' u m D∧Apart u' u∧Below B W w':=by
 have hs:(W.alloc o).heap.size=W.heap.size+1:=by simp
 refine ⟨?_,fun k hk he=> ?_,?_⟩
 ·refine (h5.kept (row:=none) (World.grownBy_alloc W o none) (by cases hv:u.ownBlock<;>simp)).kept hgr ?_
  cases hu5:u.ownBlock with
  |none=>exact .inl rfl
  |some k=>exact .inr (fun he=>hap k he.symm hu5)
 ·rw [hu] at hk
  injection hk with hk
  subst hk
  rcases hat with hat|hat
  ·exact hap g hat he
  ·have:=(h5.blt g he).2
   omega
 ·exact Below.grown ((Below.refl B W).alloc hB o) hgr (by omega) (fun k hk=>(h4.blt k hk).1)
theorem Apart.symm {v u:Value} (h:Apart v u):Apart u v:=fun g h1 h2=>h g h2 h1
def SizesPost (l:List Nd) (w:World) (e:Ending) (w':World):Prop:=
 ∃v1 v2,e= .returned (.tuple #[v1,v2])∧Ext w w'∧((szAll l=none∧v1= .slice none 0 0∧v2= .slice none 0 0)∨∃S D,szAll l=some (S,D)∧S.length=l.length∧D.length=l.length∧ArrN w' v1 S∧ArrN w' v2 D)
structure SzInv (l:List Nd) (w:World) (i:Nat) (S D:List Nat) (v u:Value) (wr:World):Prop where
 ok:SzOk S D
 go:szGo [] [] l=szGo S D (l.drop i)
 r4:RowN w.heap.size wr v i S
 r5:RowN w.heap.size wr u i D
 apart:Apart v u
 ext:Ext w wr
theorem drop_cons_of {l:List Nd} {i:Nat} {nd:Nd} (h:l[i]? =some nd):l.drop i=nd::l.drop (i+1):=by
 obtain ⟨hi,he⟩:=List.getElem?_eq_some_iff.1 h
 rw [List.drop_eq_getElem_cons hi,he]
theorem SzInv.bad {l:List Nd} {w wr:World} {i:Nat} {S D:List Nat} {v u:Value} {nd:Nd} (h:SzInv l w i S D v u wr) (hn:l[i]? =some nd) (hs:szStep S D nd=none):szAll l=none:=by
 have h1:=h.go
 rw [drop_cons_of hn,szGo,hs] at h1
 unfold szAll
 rw [h1]
theorem SzInv.next {l:List Nd} {w wr w':World} {i s d:Nat} {S D:List Nat} {v u v' u':Value} {nd:Nd} (h:SzInv l w i S D v u wr) (hn:l[i]? =some nd) (hs:szStep S D nd=some (s,d))
  (h4:RowN w.heap.size w' v' (i+1) (S++[s])) (h5:RowN w.heap.size w' u' (i+1) (D++[d])) (hap:Apart v' u') (hx:Ext w w'):SzInv l w (i+1) (S++[s]) (D++[d]) v' u' w':=by
 have h1:=h.go
 rw [drop_cons_of hn,szGo,hs] at h1
 exact ⟨(h.ok.step hs).2.2,h1,h4,h5,hap,hx⟩
section
variable {S D:List Nat} {k a b n:Int} {t:List UInt8}
theorem szStep_neg (h:operI k= -1):szStep S D ⟨k,a,b,n,t⟩=none:=by
 unfold szStep;rw [if_pos (.inl (by simp only [h];decide))]
theorem szStep_plain (h:plainB ⟨k,a,b,n,t⟩=false):szStep S D ⟨k,a,b,n,t⟩=none:=by
 unfold szStep;rw [if_pos (.inr (.inl h))]
theorem szStep_a (h:operI k=0) (h2:a≠0):szStep S D ⟨k,a,b,n,t⟩=none:=by
 unfold szStep;rw [if_pos (.inr (.inr (.inl ⟨by simp only [h];decide,h2⟩)))]
theorem szStep_b (h:operI k<2) (h2:b≠0):szStep S D ⟨k,a,b,n,t⟩=none:=by
 unfold szStep;rw [if_pos (.inr (.inr (.inr ⟨h,h2⟩)))]
theorem szStep_0 (h:operI k=0) (hp:plainB ⟨k,0,0,n,t⟩=true):szStep S D ⟨k,0,0,n,t⟩=some (1,1):=by
 unfold szStep
 rw [hp]
 simp only [h]
 simp
theorem szStep_1 (h:operI k=1) (hp:plainB ⟨k,a,0,n,t⟩=true) (ha:a=(S.length:Int)-1) (h0:0≤a):szStep S D ⟨k,a,0,n,t⟩=some (S.getD a.toNat 0+1,D.getD a.toNat 0+1):=by
 unfold szStep
 rw [hp]
 simp only [h]
 rw [if_neg (by simp),if_neg (by decide),if_pos trivial,if_neg (by omega),Nat.max_eq_right (by omega)]
theorem szStep_1bad (h:operI k=1) (ha:a≠(S.length:Int)-1∨a<0):szStep S D ⟨k,a,b,n,t⟩=none:=by
 unfold szStep
 simp only [h]
 split
 ·rfl
 ·simp
theorem szStep_2bad (h:operI k=2) (ha:b≠(S.length:Int)-1∨b<0):szStep S D ⟨k,a,b,n,t⟩=none:=by
 unfold szStep
 simp only [h]
 split
 ·rfl
 ·simp
theorem szStep_2bad2 (h:operI k=2) (ha:a≠(S.length:Int)-((S.getD b.toNat 0+1:Nat):Int)∨a<0):szStep S D ⟨k,a,b,n,t⟩=none:=by
 unfold szStep
 simp only [h]
 split
 ·rfl
 ·simp only [Int.reduceEq,if_false]
  split
  ·rfl
  ·first|rfl|simp [ha]
theorem szStep_2 (h:operI k=2) (hp:plainB ⟨k,a,b,n,t⟩=true) (hb:b=(S.length:Int)-1) (hb0:0≤b) (ha:a=(S.length:Int)-((S.getD b.toNat 0+1:Nat):Int)) (h0:0≤a):
  szStep S D ⟨k,a,b,n,t⟩=some (S.getD b.toNat 0+1+S.getD a.toNat 0,max (D.getD b.toNat 0+1) (D.getD a.toNat 0+1)):=by
 unfold szStep
 rw [hp]
 simp only [h]
 rw [if_neg (by simp),if_neg (by decide),if_neg (by decide),if_neg (by omega),if_neg (by omega),Nat.max_eq_right (a:=1) (by omega)]
end
theorem operI_cases (k:Int):operI k= -1∨operI k=0∨operI k=1∨operI k=2:=by
 unfold operI
 repeat' split
 all_goals simp
set_option maxHeartbeats 4000000 in
set_option maxRecDepth 100000 in
theorem sizes_any (w:World) (v:Value) (l:List Nd) (hr:RNd w v l) (hl:l.length≤1000000) (htx:∀x∈l,x.text.length≤1073741824):Calls Tryz.prog 74 #[v] w (SizesPost l w):=by
 have HR:=Lib.hid hr
 have HTX:=Lib.hid htx
 obtain ⟨i0,hi,hz0,hz1,hz2⟩:=info_parts info_int
 obtain ⟨A,c,rfl,_⟩:=hr
 clear htx
 have HST:Hid (SzInv l w 0 [] [] (.slice none 0 0) (.slice none 0 0) w):=Lib.hid ⟨SzOk.nil,rfl,⟨rfl,.inl ⟨rfl,rfl⟩⟩,⟨rfl,.inl ⟨rfl,rfl⟩⟩,(fun g h=>by cases h),Ext.refl w⟩
 obtain ⟨n,hn⟩:∃n,n=l.length:=⟨_,rfl⟩
 have HN:=Lib.hid hn
 rw [←hn] at hl ⊢
 clear hn
 go_enter Tryz.func74,Tryz.ntmps74
 go_wp2_with fail
 go_loopw [4,5,14] (fun s4 s5 s14 wr=>∃(i:Nat) (S D:List Nat),i≤n∧s14= .int .i64 (i:Int)∧SzInv l w i S D s4 s5 wr) (fun _ _ s14 _=>n-(intOf s14).toNat)
 case atStart=>exact ⟨0,[],[],Nat.zero_le _,rfl,HST.out⟩
 case round=>
  obtain ⟨i,S,D,hin,rfl,hinv⟩:=hrel
  have HI:=Lib.hid hinv
  obtain ⟨A4,c4,rfl⟩:=ownsRow_shape hinv.r4
  obtain ⟨A5,c5,rfl⟩:=ownsRow_shape hinv.r5
  clear HST
  by_cases hlt:i<n
  ·have hil:i<l.length:=by rw [←HN.out];exact hlt
   have HIL:=Lib.hid hil
   obtain ⟨A',c',he,hc⟩:=HR.out.ext hinv.ext
   obtain ⟨b,o,hA',hb,hc⟩:=hc (by omega)
   obtain ⟨nd,hnd,hat,htl⟩:∃nd,l[i]? =some nd∧NdAt wr b (o+i*5) nd∧nd.text.length≤1073741824:=⟨l[i],List.getElem?_eq_getElem hil,hc i hil,HTX.out _ (List.getElem_mem hil)⟩
   injection he with he1 he2 he3
   subst he1
   clear he2 he3
   subst hA'
   have HBAD:Hid (szStep S D nd=none→szAll l=none):=Lib.hid (fun h=>hinv.bad hnd h)
   have HND:=Lib.hid hnd
   clear hnd hc
   have hw:wr.heap.size≥w.heap.size:=hinv.ext.size
   have HX:=Lib.hid hinv.ext
   have hsl:=hinv.r4.len
   have hdl:=hinv.r5.len
   have HSL:=Lib.hid hsl
   have HDL:=Lib.hid hdl
   have hsi:=hinv.ok.size
   have hdi:=hinv.ok.depth
   rw [hsl] at hsi hdi
   have HSI:=Lib.hid hsi
   have HDI:=Lib.hid hdi
   have HR4:=Lib.hid hinv.r4
   have HR5:=Lib.hid hinv.r5
   clear hinv hil hsl hdl hsi hdi
   obtain ⟨kd,na,nb,nn,nt⟩:=nd
   have HPL:=Lib.hid (fun W=>plain_any W ⟨kd,na,nb,nn,nt⟩ htl)
   simp only [ndV] at HPL
   obtain ⟨k0,k1,k2,k3,k4⟩:=hat
   simp only at k0 k1 k2 k3 k4
   obtain ⟨s,hs⟩:∃s:ByteArray,s=⟨nt.toArray⟩:=⟨_,rfl⟩
   have hst:str nt= .string s:=by rw [hs];rfl
   rw [hst] at HPL k4
   clear hs hst htl
   have HOP:=Lib.hid (fun W=>operands_any W kd)
   have key:=operI_cases kd
   have hpk:∃p,p=plainB ⟨kd,na,nb,nn,nt⟩:=⟨_,rfl⟩
   obtain ⟨p,hp⟩:=hpk
   rw [←hp] at HPL
   have hb0:=Blk.new wr 50 #[.int .i64 kd,.int .i64 na,.int .i64 nb,.int .i64 nn,.string s]
   have HXA:=Lib.hid ((Ext.refl wr).alloc (.cells #[.int .i64 kd,.int .i64 na,.int .i64 nb,.int .i64 nn,.string s] 50))
   have HBN:=Lib.hid hb0
   obtain ⟨q0,q1,q2,q3,q4⟩:=hb0.five
   clear hb0
   rcases key with hop|hop|hop|hop
   ·have HNO:=Lib.hid (HBAD.out (szStep_neg hop))
    rw [hop] at HOP
    clear hop hp HBAD
    go_wp2_with fail
    refine (HOP.out _).mono ?_
    rintro e w2 ⟨rfl,rfl⟩
    go_wp2_with fail
    go_ret2
    exact ⟨_,_,rfl,HX.out.trans HXA.out,.inl ⟨HNO.out,rfl,rfl⟩⟩
   ·cases hpb:p
    ·rw [hpb] at hp HPL
     clear hpb
     have HNO:=Lib.hid (HBAD.out (szStep_plain hp.symm))
     rw [hop] at HOP
     clear hop hp HBAD
     go_wp2_with fail
     refine (HOP.out _).mono ?_
     rintro e w2 ⟨rfl,rfl⟩
     go_wp2_with fail
     refine (HPL.out _).mono ?_
     rintro e w3 ⟨rfl,hx3⟩
     have HXB:=Lib.hid (HX.out.trans (HXA.out.trans hx3))
     have HB3:=Lib.hid (HBN.out.ext hx3)
     obtain ⟨q0,q1,q2,q3,q4⟩:=HB3.out.five
     have HS4:=Lib.hid (HR4.out.ext (HXA.out.trans hx3))
     have HS5:=Lib.hid (HR5.out.ext (HXA.out.trans hx3))
     have hgw3:w.heap.size≤w3.heap.size:=HXB.out.size
     clear hx3
     go_wp2_with fail
     go_ret2
     exact ⟨_,_,rfl,HXB.out,.inl ⟨HNO.out,rfl,rfl⟩⟩
    ·rw [hpb] at hp HPL
     clear hpb
     by_cases ha:na=0
     ·subst ha
      by_cases hb:nb=0
      ·subst hb
       have HSP:Hid (szStep S D ⟨kd,0,0,nn,nt⟩=some (1,1)):=Lib.hid (szStep_0 hop hp.symm)
       rw [hop] at HOP
       clear hop hp
       go_wp2_with fail
       refine (HOP.out _).mono ?_
       rintro e w2 ⟨rfl,rfl⟩
       go_wp2_with fail
       refine (HPL.out _).mono ?_
       rintro e w3 ⟨rfl,hx3⟩
       have HXB:=Lib.hid (HX.out.trans (HXA.out.trans hx3))
       have HB3:=Lib.hid (HBN.out.ext hx3)
       obtain ⟨q0,q1,q2,q3,q4⟩:=HB3.out.five
       have HS4:=Lib.hid (HR4.out.ext (HXA.out.trans hx3))
       have HS5:=Lib.hid (HR5.out.ext (HXA.out.trans hx3))
       have hgw3:w.heap.size≤w3.heap.size:=HXB.out.size
       clear hx3
       have HSTEP:=Lib.hid (HSP.out)
       have HBB1:Hid (i+1≤maxLen):=Lib.hid (by unfold maxLen;omega)
       have HBB2:Hid ((i+1)*8≤140737488355328):=Lib.hid (by omega)
       have HRA:Hid ((w3.alloc (.cells #[.int .i64 1] 3)).ownsRow w.heap.size 3 1 (.slice A4 i c4) i (S.map din)):=Lib.hid (ownsRow_below HS4.out (fun k _ hk=>Below.heap_alloc _ _ k hk))
       have HNW:=Lib.hid (newsL w3 3 [.int .i64 1])
       have HBB3:Hid (w.heap.size≤(w3.alloc (.cells #[.int .i64 1] 3)).heap.size):=Lib.hid (by simp;omega)
       clear HBAD
       go_wp2_with (at_builtin;first|(refine wpList_append_lies _ rfl _ _ 22 rfl w.heap.size 3 i0 _ 1 8 Tryz.underlying22 hi hz0 hz1 hz2 rfl (by decide) (.slice A4 i c4) i (S.map din) rfl HRA.out ⟨w3.heap.size,0,none⟩ 1 1 [.int .i64 1] rfl rfl HNW.out (by simp [Value.oneCell']) (by decide) HBB1.out HBB2.out HBB3.out _ rfl ?_;intro g6 c6 w6 hown6 hgr6 hat6 hlt6;have HTR:=Lib.hid (two_rows (u':= .slice (some ⟨g6,0,none⟩) (i+1) c6) HS4.out HS5.out (HI.out.apart) hgw3 hgr6 hat6 rfl rfl);have HO6:Hid (RowN w.heap.size w6 (.slice (some ⟨g6,0,none⟩) (i+1) c6) (i+1) (S++[1])):=Lib.hid (by unfold RowN;rw [List.map_append];exact hown6);have hg6:w.heap.size≤w6.heap.size:=Nat.le_trans hgw3 HTR.out.2.2.size;clear hown6 hgr6 hat6;have HRB:Hid ((w6.alloc (.cells #[.int .i64 1] 3)).ownsRow w.heap.size 3 1 (.slice A5 i c5) i (D.map din)):=Lib.hid (ownsRow_below HTR.out.1 (fun k _ hk=>Below.heap_alloc _ _ k hk));have HNW2:=Lib.hid (newsL w6 3 [.int .i64 1]);have HBB4:Hid (w.heap.size≤(w6.alloc (.cells #[.int .i64 1] 3)).heap.size):=Lib.hid (by simp;omega))|(refine wpList_append_lies _ rfl _ _ 22 rfl w.heap.size 3 i0 _ 1 8 Tryz.underlying22 hi hz0 hz1 hz2 rfl (by decide) (.slice A5 i c5) i (D.map din) rfl HRB.out ⟨w6.heap.size,0,none⟩ 1 1 [.int .i64 1] rfl rfl HNW2.out (by simp [Value.oneCell']) (by decide) HBB1.out HBB2.out HBB4.out _ rfl ?_;intro g7 c7 w7 hown7 hgr7 hat7 hlt7;have HTS:=Lib.hid (two_rows (u':= .slice (some ⟨g7,0,none⟩) (i+1) c7) HTR.out.1 HO6.out (HTR.out.2.1.symm) hg6 hgr7 hat7 rfl rfl);have HO7:Hid (RowN w.heap.size w7 (.slice (some ⟨g7,0,none⟩) (i+1) c7) (i+1) (D++[1])):=Lib.hid (by unfold RowN;rw [List.map_append];exact hown7);clear hown7 hgr7 hat7))
       go_wp2_with fail
       go_roundw
       case rel=>exact ⟨i+1,_,_,by omega,by go_num,HI.out.next HND.out HSTEP.out HTS.out.1 HO7.out HTS.out.2.1.symm (HXB.out.more (HTR.out.2.2.trans HTS.out.2.2))⟩
       case measure=>simp [intOf];omega
      ·have hbb:(nb != 0)=true:=by rw [bne_iff_ne];exact hb
       have HNO:=Lib.hid (HBAD.out (szStep_b (by omega) hb))
       rw [hop] at HOP
       clear hop hp HBAD hb
       go_wp2_with fail
       refine (HOP.out _).mono ?_
       rintro e w2 ⟨rfl,rfl⟩
       go_wp2_with fail
       refine (HPL.out _).mono ?_
       rintro e w3 ⟨rfl,hx3⟩
       have HXB:=Lib.hid (HX.out.trans (HXA.out.trans hx3))
       have HB3:=Lib.hid (HBN.out.ext hx3)
       obtain ⟨q0,q1,q2,q3,q4⟩:=HB3.out.five
       have HS4:=Lib.hid (HR4.out.ext (HXA.out.trans hx3))
       have HS5:=Lib.hid (HR5.out.ext (HXA.out.trans hx3))
       have hgw3:w.heap.size≤w3.heap.size:=HXB.out.size
       clear hx3
       go_wp2_with fail
       go_ret2
       exact ⟨_,_,rfl,HXB.out,.inl ⟨HNO.out,rfl,rfl⟩⟩
     ·have hab:(na != 0)=true:=by rw [bne_iff_ne];exact ha
      have HNO:=Lib.hid (HBAD.out (szStep_a hop ha))
      rw [hop] at HOP
      clear hop hp HBAD ha
      go_wp2_with fail
      refine (HOP.out _).mono ?_
      rintro e w2 ⟨rfl,rfl⟩
      go_wp2_with fail
      refine (HPL.out _).mono ?_
      rintro e w3 ⟨rfl,hx3⟩
      have HXB:=Lib.hid (HX.out.trans (HXA.out.trans hx3))
      have HB3:=Lib.hid (HBN.out.ext hx3)
      obtain ⟨q0,q1,q2,q3,q4⟩:=HB3.out.five
      have HS4:=Lib.hid (HR4.out.ext (HXA.out.trans hx3))
      have HS5:=Lib.hid (HR5.out.ext (HXA.out.trans hx3))
      have hgw3:w.heap.size≤w3.heap.size:=HXB.out.size
      clear hx3
      go_wp2_with fail
      go_ret2
      exact ⟨_,_,rfl,HXB.out,.inl ⟨HNO.out,rfl,rfl⟩⟩
   ·cases hpb:p
    ·rw [hpb] at hp HPL
     clear hpb
     have HNO:=Lib.hid (HBAD.out (szStep_plain hp.symm))
     rw [hop] at HOP
     clear hop hp HBAD
     go_wp2_with fail
     refine (HOP.out _).mono ?_
     rintro e w2 ⟨rfl,rfl⟩
     go_wp2_with fail
     refine (HPL.out _).mono ?_
     rintro e w3 ⟨rfl,hx3⟩
     have HXB:=Lib.hid (HX.out.trans (HXA.out.trans hx3))
     have HB3:=Lib.hid (HBN.out.ext hx3)
     obtain ⟨q0,q1,q2,q3,q4⟩:=HB3.out.five
     have HS4:=Lib.hid (HR4.out.ext (HXA.out.trans hx3))
     have HS5:=Lib.hid (HR5.out.ext (HXA.out.trans hx3))
     have hgw3:w.heap.size≤w3.heap.size:=HXB.out.size
     clear hx3
     go_wp2_with fail
     go_ret2
     exact ⟨_,_,rfl,HXB.out,.inl ⟨HNO.out,rfl,rfl⟩⟩
    ·rw [hpb] at hp HPL
     clear hpb
     by_cases hb:nb=0
     ·subst hb
      have hwi:IntKind.i64.wrap ((i:Int)-1)=(i:Int)-1:=IntWalk.i64_in _ (by omega)
      by_cases hz:na=(i:Int)-1
      ·by_cases hz0':na<0
       ·have hzb:(na != (i:Int)-1)=false:=by rw [hz];simp
        have hzc:decide (na<0)=true:=decide_eq_true hz0'
        have HNO:=Lib.hid (HBAD.out (szStep_1bad hop (.inr hz0')))
        rw [hop] at HOP
        clear hop hp HBAD hz
        go_wp2_with fail
        refine (HOP.out _).mono ?_
        rintro e w2 ⟨rfl,rfl⟩
        go_wp2_with fail
        refine (HPL.out _).mono ?_
        rintro e w3 ⟨rfl,hx3⟩
        have HXB:=Lib.hid (HX.out.trans (HXA.out.trans hx3))
        have HB3:=Lib.hid (HBN.out.ext hx3)
        obtain ⟨q0,q1,q2,q3,q4⟩:=HB3.out.five
        have HS4:=Lib.hid (HR4.out.ext (HXA.out.trans hx3))
        have HS5:=Lib.hid (HR5.out.ext (HXA.out.trans hx3))
        have hgw3:w.heap.size≤w3.heap.size:=HXB.out.size
        clear hx3
        go_wp2_with fail
        go_ret2
        exact ⟨_,_,rfl,HXB.out,.inl ⟨HNO.out,rfl,rfl⟩⟩
       ·have hz1':0≤na:=by omega
        have hzb:(na != (i:Int)-1)=false:=by rw [hz];simp
        have hzc:decide (na<0)=false:=decide_eq_false hz0'
        have hipos:0<i:=by omega
        obtain ⟨g4,d4,he4,hbg4,hlg4⟩:=HR4.out.form hipos
        injection he4 with he4 _ he5
        subst he4
        subst he5
        obtain ⟨g5,d5,he4,hbg5,hlg5⟩:=HR5.out.form hipos
        injection he4 with he4 _ he5
        subst he4
        subst he5
        have hzt:na.toNat<i:=by omega
        have HG4:Hid (∀W,RowN w.heap.size W (.slice (some ⟨g4,0,none⟩) i c4) i S→W.cell? ⟨g4,na.toNat,none⟩=some (.int .i64 ((S.getD na.toNat 0:Nat):Int))):=Lib.hid (fun W h=>h.get _ hzt)
        have HG5:Hid (∀W,RowN w.heap.size W (.slice (some ⟨g5,0,none⟩) i c5) i D→W.cell? ⟨g5,na.toNat,none⟩=some (.int .i64 ((D.getD na.toNat 0:Nat):Int))):=Lib.hid (fun W h=>h.get _ hzt)
        have hsb:=HSI.out na.toNat hzt
        have hdb:=HDI.out na.toNat hzt
        have hz2':na<(i:Int):=by omega
        have HSP:Hid (szStep S D ⟨kd,na,0,nn,nt⟩=some (S.getD na.toNat 0+1,D.getD na.toNat 0+1)):=Lib.hid (szStep_1 hop hp.symm (by rw [HSL.out];exact hz) hz1')
        generalize S.getD na.toNat 0=sv at *
        generalize D.getD na.toNat 0=dv at *
        have hw1:IntKind.i64.wrap (1+(sv:Int))=((sv+1:Nat):Int):=by rw [IntWalk.i64_in _ (by omega)];omega
        have hw2:IntKind.i64.wrap ((dv:Int)+1)=((dv+1:Nat):Int):=by rw [IntWalk.i64_in _ (by omega)];omega
        have hmx:max (1:Int) ((dv+1:Nat):Int)=((dv+1:Nat):Int):=by omega
        obtain ⟨s1,hs1⟩:∃s1,s1=sv+1:=⟨_,rfl⟩
        obtain ⟨d1,hd1⟩:∃d1,d1=dv+1:=⟨_,rfl⟩
        rw [←hs1] at hw1 HSP
        rw [←hd1] at hw2 hmx HSP
        have hs1b:s1≤1000001:=by omega
        have hd1b:d1≤1000001:=by omega
        rw [hop] at HOP
        clear hop hp hz hs1 hd1 hsb hdb
        go_wp2_with fail
        refine (HOP.out _).mono ?_
        rintro e w2 ⟨rfl,rfl⟩
        go_wp2_with fail
        refine (HPL.out _).mono ?_
        rintro e w3 ⟨rfl,hx3⟩
        have HXB:=Lib.hid (HX.out.trans (HXA.out.trans hx3))
        have HB3:=Lib.hid (HBN.out.ext hx3)
        obtain ⟨q0,q1,q2,q3,q4⟩:=HB3.out.five
        have HS4:=Lib.hid (HR4.out.ext (HXA.out.trans hx3))
        have HS5:=Lib.hid (HR5.out.ext (HXA.out.trans hx3))
        have hgw3:w.heap.size≤w3.heap.size:=HXB.out.size
        clear hx3
        have hr4:=HG4.out w3 HS4.out
        have hr5:=HG5.out w3 HS5.out
        go_upto_region 15 with fail
        go_region
        all_goals
         obtain ⟨w8,hw8⟩:∃w8,w8=w3.drew:=⟨_,rfl⟩
         rw [←hw8]
         have HDw8:Hid (Ext w3 w8):=Lib.hid (by rw [hw8];exact (Ext.refl w3).drew)
         have HXw8:=Lib.hid (HXB.out.trans HDw8.out)
         have HBw8:=Lib.hid (HB3.out.ext HDw8.out)
         obtain ⟨q0,q1,q2,q3,q4⟩:=HBw8.out.five
         have HFw8:=Lib.hid (HS4.out.ext HDw8.out)
         have HGw8:=Lib.hid (HS5.out.ext HDw8.out)
         have hgw8:w.heap.size≤w8.heap.size:=HXw8.out.size
         clear hw8
         have HSTEP:=Lib.hid (HSP.out)
         have HBB1:Hid (i+1≤maxLen):=Lib.hid (by unfold maxLen;omega)
         have HBB2:Hid ((i+1)*8≤140737488355328):=Lib.hid (by omega)
         have HRA:Hid ((w8.alloc (.cells #[.int .i64 ((s1:Nat):Int)] 3)).ownsRow w.heap.size 3 1 (.slice (some ⟨g4,0,none⟩) i c4) i (S.map din)):=Lib.hid (ownsRow_below HFw8.out (fun k _ hk=>Below.heap_alloc _ _ k hk))
         have HNW:=Lib.hid (newsL w8 3 [.int .i64 ((s1:Nat):Int)])
         have HBB3:Hid (w.heap.size≤(w8.alloc (.cells #[.int .i64 ((s1:Nat):Int)] 3)).heap.size):=Lib.hid (by simp;omega)
         go_wp2_with (at_builtin;first|(refine wpList_append_lies _ rfl _ _ 22 rfl w.heap.size 3 i0 _ 1 8 Tryz.underlying22 hi hz0 hz1 hz2 rfl (by decide) (.slice (some ⟨g4,0,none⟩) i c4) i (S.map din) rfl HRA.out ⟨w8.heap.size,0,none⟩ 1 1 [.int .i64 ((s1:Nat):Int)] rfl rfl HNW.out (by simp [Value.oneCell']) (by decide) HBB1.out HBB2.out HBB3.out _ rfl ?_;intro g6 c6 w6 hown6 hgr6 hat6 hlt6;have HTR:=Lib.hid (two_rows (u':= .slice (some ⟨g6,0,none⟩) (i+1) c6) HFw8.out HGw8.out (HI.out.apart) hgw8 hgr6 hat6 rfl rfl);have HO6:Hid (RowN w.heap.size w6 (.slice (some ⟨g6,0,none⟩) (i+1) c6) (i+1) (S++[s1])):=Lib.hid (by unfold RowN;rw [List.map_append];exact hown6);have hg6:w.heap.size≤w6.heap.size:=Nat.le_trans hgw8 HTR.out.2.2.size;clear hown6 hgr6 hat6;have HRB:Hid ((w6.alloc (.cells #[.int .i64 ((d1:Nat):Int)] 3)).ownsRow w.heap.size 3 1 (.slice (some ⟨g5,0,none⟩) i c5) i (D.map din)):=Lib.hid (ownsRow_below HTR.out.1 (fun k _ hk=>Below.heap_alloc _ _ k hk));have HNW2:=Lib.hid (newsL w6 3 [.int .i64 ((d1:Nat):Int)]);have HBB4:Hid (w.heap.size≤(w6.alloc (.cells #[.int .i64 ((d1:Nat):Int)] 3)).heap.size):=Lib.hid (by simp;omega))|(refine wpList_append_lies _ rfl _ _ 22 rfl w.heap.size 3 i0 _ 1 8 Tryz.underlying22 hi hz0 hz1 hz2 rfl (by decide) (.slice (some ⟨g5,0,none⟩) i c5) i (D.map din) rfl HRB.out ⟨w6.heap.size,0,none⟩ 1 1 [.int .i64 ((d1:Nat):Int)] rfl rfl HNW2.out (by simp [Value.oneCell']) (by decide) HBB1.out HBB2.out HBB4.out _ rfl ?_;intro g7 c7 w7 hown7 hgr7 hat7 hlt7;have HTS:=Lib.hid (two_rows (u':= .slice (some ⟨g7,0,none⟩) (i+1) c7) HTR.out.1 HO6.out (HTR.out.2.1.symm) hg6 hgr7 hat7 rfl rfl);have HO7:Hid (RowN w.heap.size w7 (.slice (some ⟨g7,0,none⟩) (i+1) c7) (i+1) (D++[d1])):=Lib.hid (by unfold RowN;rw [List.map_append];exact hown7);clear hown7 hgr7 hat7))
         go_wp2_with fail
         go_roundw
         case rel=>exact ⟨i+1,_,_,by omega,by go_num,HI.out.next HND.out HSTEP.out HTS.out.1 HO7.out HTS.out.2.1.symm (HXw8.out.more (HTR.out.2.2.trans HTS.out.2.2))⟩
         case measure=>simp [intOf];omega
      ·have hzb:(na != (i:Int)-1)=true:=by rw [bne_iff_ne];exact hz
       have HNO:=Lib.hid (HBAD.out (szStep_1bad hop (.inl (by rw [HSL.out];exact hz))))
       rw [hop] at HOP
       clear hop hp HBAD hz
       go_wp2_with fail
       refine (HOP.out _).mono ?_
       rintro e w2 ⟨rfl,rfl⟩
       go_wp2_with fail
       refine (HPL.out _).mono ?_
       rintro e w3 ⟨rfl,hx3⟩
       have HXB:=Lib.hid (HX.out.trans (HXA.out.trans hx3))
       have HB3:=Lib.hid (HBN.out.ext hx3)
       obtain ⟨q0,q1,q2,q3,q4⟩:=HB3.out.five
       have HS4:=Lib.hid (HR4.out.ext (HXA.out.trans hx3))
       have HS5:=Lib.hid (HR5.out.ext (HXA.out.trans hx3))
       have hgw3:w.heap.size≤w3.heap.size:=HXB.out.size
       clear hx3
       go_wp2_with fail
       go_ret2
       exact ⟨_,_,rfl,HXB.out,.inl ⟨HNO.out,rfl,rfl⟩⟩
     ·have hbb:(nb != 0)=true:=by rw [bne_iff_ne];exact hb
      have HNO:=Lib.hid (HBAD.out (szStep_b (by omega) hb))
      rw [hop] at HOP
      clear hop hp HBAD hb
      go_wp2_with fail
      refine (HOP.out _).mono ?_
      rintro e w2 ⟨rfl,rfl⟩
      go_wp2_with fail
      refine (HPL.out _).mono ?_
      rintro e w3 ⟨rfl,hx3⟩
      have HXB:=Lib.hid (HX.out.trans (HXA.out.trans hx3))
      have HB3:=Lib.hid (HBN.out.ext hx3)
      obtain ⟨q0,q1,q2,q3,q4⟩:=HB3.out.five
      have HS4:=Lib.hid (HR4.out.ext (HXA.out.trans hx3))
      have HS5:=Lib.hid (HR5.out.ext (HXA.out.trans hx3))
      have hgw3:w.heap.size≤w3.heap.size:=HXB.out.size
      clear hx3
      go_wp2_with fail
      go_ret2
      exact ⟨_,_,rfl,HXB.out,.inl ⟨HNO.out,rfl,rfl⟩⟩
   ·cases hpb:p
    ·rw [hpb] at hp HPL
     clear hpb
     have HNO:=Lib.hid (HBAD.out (szStep_plain hp.symm))
     rw [hop] at HOP
     clear hop hp HBAD
     go_wp2_with fail
     refine (HOP.out _).mono ?_
     rintro e w2 ⟨rfl,rfl⟩
     go_wp2_with fail
     refine (HPL.out _).mono ?_
     rintro e w3 ⟨rfl,hx3⟩
     have HXB:=Lib.hid (HX.out.trans (HXA.out.trans hx3))
     have HB3:=Lib.hid (HBN.out.ext hx3)
     obtain ⟨q0,q1,q2,q3,q4⟩:=HB3.out.five
     have HS4:=Lib.hid (HR4.out.ext (HXA.out.trans hx3))
     have HS5:=Lib.hid (HR5.out.ext (HXA.out.trans hx3))
     have hgw3:w.heap.size≤w3.heap.size:=HXB.out.size
     clear hx3
     go_wp2_with fail
     go_ret2
     exact ⟨_,_,rfl,HXB.out,.inl ⟨HNO.out,rfl,rfl⟩⟩
    ·rw [hpb] at hp HPL
     clear hpb
     have hwi:IntKind.i64.wrap ((i:Int)-1)=(i:Int)-1:=IntWalk.i64_in _ (by omega)
     by_cases hz:nb=(i:Int)-1
     ·by_cases hz0':nb<0
      ·have hzb:(nb != (i:Int)-1)=false:=by rw [hz];simp
       have hzc:decide (nb<0)=true:=decide_eq_true hz0'
       have HNO:=Lib.hid (HBAD.out (szStep_2bad hop (.inr hz0')))
       rw [hop] at HOP
       clear hop hp HBAD hz
       go_wp2_with fail
       refine (HOP.out _).mono ?_
       rintro e w2 ⟨rfl,rfl⟩
       go_wp2_with fail
       refine (HPL.out _).mono ?_
       rintro e w3 ⟨rfl,hx3⟩
       have HXB:=Lib.hid (HX.out.trans (HXA.out.trans hx3))
       have HB3:=Lib.hid (HBN.out.ext hx3)
       obtain ⟨q0,q1,q2,q3,q4⟩:=HB3.out.five
       have HS4:=Lib.hid (HR4.out.ext (HXA.out.trans hx3))
       have HS5:=Lib.hid (HR5.out.ext (HXA.out.trans hx3))
       have hgw3:w.heap.size≤w3.heap.size:=HXB.out.size
       clear hx3
       go_wp2_with fail
       go_ret2
       exact ⟨_,_,rfl,HXB.out,.inl ⟨HNO.out,rfl,rfl⟩⟩
      ·have hz1':0≤nb:=by omega
       have hzb:(nb != (i:Int)-1)=false:=by rw [hz];simp
       have hzc:decide (nb<0)=false:=decide_eq_false hz0'
       have hipos:0<i:=by omega
       obtain ⟨g4,d4,he4,hbg4,hlg4⟩:=HR4.out.form hipos
       injection he4 with he4 _ he5
       subst he4
       subst he5
       obtain ⟨g5,d5,he4,hbg5,hlg5⟩:=HR5.out.form hipos
       injection he4 with he4 _ he5
       subst he4
       subst he5
       have hzt:nb.toNat<i:=by omega
       have HG4:Hid (∀W,RowN w.heap.size W (.slice (some ⟨g4,0,none⟩) i c4) i S→W.cell? ⟨g4,nb.toNat,none⟩=some (.int .i64 ((S.getD nb.toNat 0:Nat):Int))):=Lib.hid (fun W h=>h.get _ hzt)
       have HG5:Hid (∀W,RowN w.heap.size W (.slice (some ⟨g5,0,none⟩) i c5) i D→W.cell? ⟨g5,nb.toNat,none⟩=some (.int .i64 ((D.getD nb.toNat 0:Nat):Int))):=Lib.hid (fun W h=>h.get _ hzt)
       have hsb:=HSI.out nb.toNat hzt
       have hdb:=HDI.out nb.toNat hzt
       have hz2':nb<(i:Int):=by omega
       have HSP:Hid (∀q:na=(i:Int)-((S.getD nb.toNat 0+1:Nat):Int),0≤na→szStep S D ⟨kd,na,nb,nn,nt⟩=some (S.getD nb.toNat 0+1+S.getD na.toNat 0,max (D.getD nb.toNat 0+1) (D.getD na.toNat 0+1))):=Lib.hid (fun q h=>szStep_2 hop hp.symm (by rw [HSL.out];exact hz) hz1' (by rw [HSL.out];exact q) h)
       have HNB:Hid (na≠(i:Int)-((S.getD nb.toNat 0+1:Nat):Int)∨na<0→szAll l=none):=Lib.hid (fun h=>HBAD.out (szStep_2bad2 hop (by rw [HSL.out];exact h)))
       have hna:∀q:na=(i:Int)-((S.getD nb.toNat 0+1:Nat):Int),0≤na→na.toNat<i:=fun q h=>by omega
       generalize S.getD nb.toNat 0=sv at *
       generalize D.getD nb.toNat 0=dv at *
       have hw1:IntKind.i64.wrap (1+(sv:Int))=((sv+1:Nat):Int):=by rw [IntWalk.i64_in _ (by omega)];omega
       have hw2:IntKind.i64.wrap ((dv:Int)+1)=((dv+1:Nat):Int):=by rw [IntWalk.i64_in _ (by omega)];omega
       have hmx:max (1:Int) ((dv+1:Nat):Int)=((dv+1:Nat):Int):=by omega
       obtain ⟨s1,hs1⟩:∃s1,s1=sv+1:=⟨_,rfl⟩
       obtain ⟨d1,hd1⟩:∃d1,d1=dv+1:=⟨_,rfl⟩
       rw [←hs1] at hw1 HSP HNB hna
       rw [←hd1] at hw2 hmx HSP
       have hs1b:s1≤1000001:=by omega
       have hd1b:d1≤1000001:=by omega
       have hw3:IntKind.i64.wrap ((i:Int)-(s1:Int))=(i:Int)-(s1:Int):=IntWalk.i64_in _ (by omega)
       rw [hop] at HOP
       clear hop hp hz hs1 hd1 hsb hdb HBAD
       by_cases hy:na=(i:Int)-(s1:Int)
       ·by_cases hy0:na<0
        ·have hyb:(na != (i:Int)-(s1:Int))=false:=by rw [hy];simp
         have hyc:decide (na<0)=true:=decide_eq_true hy0
         have HNO:=Lib.hid (HNB.out (.inr hy0))
         clear hna hy HNB HSP
         go_wp2_with fail
         refine (HOP.out _).mono ?_
         rintro e w2 ⟨rfl,rfl⟩
         go_wp2_with fail
         refine (HPL.out _).mono ?_
         rintro e w3 ⟨rfl,hx3⟩
         have HXB:=Lib.hid (HX.out.trans (HXA.out.trans hx3))
         have HB3:=Lib.hid (HBN.out.ext hx3)
         obtain ⟨q0,q1,q2,q3,q4⟩:=HB3.out.five
         have HS4:=Lib.hid (HR4.out.ext (HXA.out.trans hx3))
         have HS5:=Lib.hid (HR5.out.ext (HXA.out.trans hx3))
         have hgw3:w.heap.size≤w3.heap.size:=HXB.out.size
         clear hx3
         have hr4:=HG4.out w3 HS4.out
         have hr5:=HG5.out w3 HS5.out
         go_upto_region 15 with fail
         go_region
         all_goals
          obtain ⟨w8,hw8⟩:∃w8,w8=w3.drew:=⟨_,rfl⟩
          rw [←hw8]
          have HDw8:Hid (Ext w3 w8):=Lib.hid (by rw [hw8];exact (Ext.refl w3).drew)
          have HXw8:=Lib.hid (HXB.out.trans HDw8.out)
          have HBw8:=Lib.hid (HB3.out.ext HDw8.out)
          obtain ⟨q0,q1,q2,q3,q4⟩:=HBw8.out.five
          have HFw8:=Lib.hid (HS4.out.ext HDw8.out)
          have HGw8:=Lib.hid (HS5.out.ext HDw8.out)
          have hgw8:w.heap.size≤w8.heap.size:=HXw8.out.size
          clear hw8
          go_wp2_with fail
          go_ret2
          exact ⟨_,_,rfl,HXw8.out,.inl ⟨HNO.out,rfl,rfl⟩⟩
        ·have hy1:0≤na:=by omega
         have hyb:(na != (i:Int)-(s1:Int))=false:=by rw [hy];simp
         have hyc:decide (na<0)=false:=decide_eq_false hy0
         have hyt:=hna hy hy1
         have HSQ:=Lib.hid (HSP.out hy hy1)
         have HH4:Hid (∀W,RowN w.heap.size W (.slice (some ⟨g4,0,none⟩) i c4) i S→W.cell? ⟨g4,na.toNat,none⟩=some (.int .i64 ((S.getD na.toNat 0:Nat):Int))):=Lib.hid (fun W h=>h.get _ hyt)
         have HH5:Hid (∀W,RowN w.heap.size W (.slice (some ⟨g5,0,none⟩) i c5) i D→W.cell? ⟨g5,na.toNat,none⟩=some (.int .i64 ((D.getD na.toNat 0:Nat):Int))):=Lib.hid (fun W h=>h.get _ hyt)
         have hsb:=HSI.out na.toNat hyt
         have hdb:=HDI.out na.toNat hyt
         have hy2:na<(i:Int):=by omega
         generalize S.getD na.toNat 0=sa at *
         generalize D.getD na.toNat 0=da at *
         have hw4:IntKind.i64.wrap ((s1:Int)+(sa:Int))=((s1+sa:Nat):Int):=by rw [IntWalk.i64_in _ (by omega)];omega
         have hw5:IntKind.i64.wrap ((da:Int)+1)=((da+1:Nat):Int):=by rw [IntWalk.i64_in _ (by omega)];omega
         have hmy:max (d1:Int) ((da+1:Nat):Int)=((max d1 (da+1):Nat):Int):=by omega
         obtain ⟨s2,hs2⟩:∃s2,s2=s1+sa:=⟨_,rfl⟩
         obtain ⟨d2,hd2⟩:∃d2,d2=da+1:=⟨_,rfl⟩
         rw [←hs2] at hw4 HSQ
         rw [←hd2] at hw5 hmy HSQ
         obtain ⟨d3,hd3⟩:∃d3,d3=max d1 d2:=⟨_,rfl⟩
         rw [←hd3] at hmy HSQ
         clear hna hy HNB HSP hyt hs2 hd2 hd3 hsb hdb
         go_wp2_with fail
         refine (HOP.out _).mono ?_
         rintro e w2 ⟨rfl,rfl⟩
         go_wp2_with fail
         refine (HPL.out _).mono ?_
         rintro e w3 ⟨rfl,hx3⟩
         have HXB:=Lib.hid (HX.out.trans (HXA.out.trans hx3))
         have HB3:=Lib.hid (HBN.out.ext hx3)
         obtain ⟨q0,q1,q2,q3,q4⟩:=HB3.out.five
         have HS4:=Lib.hid (HR4.out.ext (HXA.out.trans hx3))
         have HS5:=Lib.hid (HR5.out.ext (HXA.out.trans hx3))
         have hgw3:w.heap.size≤w3.heap.size:=HXB.out.size
         clear hx3
         have hr4:=HG4.out w3 HS4.out
         have hr5:=HG5.out w3 HS5.out
         go_upto_region 15 with fail
         go_region
         all_goals
          obtain ⟨w8,hw8⟩:∃w8,w8=w3.drew:=⟨_,rfl⟩
          rw [←hw8]
          have HDw8:Hid (Ext w3 w8):=Lib.hid (by rw [hw8];exact (Ext.refl w3).drew)
          have HXw8:=Lib.hid (HXB.out.trans HDw8.out)
          have HBw8:=Lib.hid (HB3.out.ext HDw8.out)
          obtain ⟨q0,q1,q2,q3,q4⟩:=HBw8.out.five
          have HFw8:=Lib.hid (HS4.out.ext HDw8.out)
          have HGw8:=Lib.hid (HS5.out.ext HDw8.out)
          have hgw8:w.heap.size≤w8.heap.size:=HXw8.out.size
          clear hw8
          have hr6:=HH4.out w8 HFw8.out
          have hr7:=HH5.out w8 HGw8.out
          go_upto_region 19 with fail
          go_region
          all_goals
           obtain ⟨w9,hw9⟩:∃w9,w9=w8.drew:=⟨_,rfl⟩
           rw [←hw9]
           have HDw9:Hid (Ext w8 w9):=Lib.hid (by rw [hw9];exact (Ext.refl w8).drew)
           have HXw9:=Lib.hid (HXw8.out.trans HDw9.out)
           have HBw9:=Lib.hid (HBw8.out.ext HDw9.out)
           obtain ⟨q0,q1,q2,q3,q4⟩:=HBw9.out.five
           have HFw9:=Lib.hid (HFw8.out.ext HDw9.out)
           have HGw9:=Lib.hid (HGw8.out.ext HDw9.out)
           have hgw9:w.heap.size≤w9.heap.size:=HXw9.out.size
           clear hw9
           have HSTEP:=Lib.hid (HSQ.out)
           have HBB1:Hid (i+1≤maxLen):=Lib.hid (by unfold maxLen;omega)
           have HBB2:Hid ((i+1)*8≤140737488355328):=Lib.hid (by omega)
           have HRA:Hid ((w9.alloc (.cells #[.int .i64 ((s2:Nat):Int)] 3)).ownsRow w.heap.size 3 1 (.slice (some ⟨g4,0,none⟩) i c4) i (S.map din)):=Lib.hid (ownsRow_below HFw9.out (fun k _ hk=>Below.heap_alloc _ _ k hk))
           have HNW:=Lib.hid (newsL w9 3 [.int .i64 ((s2:Nat):Int)])
           have HBB3:Hid (w.heap.size≤(w9.alloc (.cells #[.int .i64 ((s2:Nat):Int)] 3)).heap.size):=Lib.hid (by simp;omega)
           go_wp2_with (at_builtin;first|(refine wpList_append_lies _ rfl _ _ 22 rfl w.heap.size 3 i0 _ 1 8 Tryz.underlying22 hi hz0 hz1 hz2 rfl (by decide) (.slice (some ⟨g4,0,none⟩) i c4) i (S.map din) rfl HRA.out ⟨w9.heap.size,0,none⟩ 1 1 [.int .i64 ((s2:Nat):Int)] rfl rfl HNW.out (by simp [Value.oneCell']) (by decide) HBB1.out HBB2.out HBB3.out _ rfl ?_;intro g6 c6 w6 hown6 hgr6 hat6 hlt6;have HTR:=Lib.hid (two_rows (u':= .slice (some ⟨g6,0,none⟩) (i+1) c6) HFw9.out HGw9.out (HI.out.apart) hgw9 hgr6 hat6 rfl rfl);have HO6:Hid (RowN w.heap.size w6 (.slice (some ⟨g6,0,none⟩) (i+1) c6) (i+1) (S++[s2])):=Lib.hid (by unfold RowN;rw [List.map_append];exact hown6);have hg6:w.heap.size≤w6.heap.size:=Nat.le_trans hgw9 HTR.out.2.2.size;clear hown6 hgr6 hat6;have HRB:Hid ((w6.alloc (.cells #[.int .i64 ((d3:Nat):Int)] 3)).ownsRow w.heap.size 3 1 (.slice (some ⟨g5,0,none⟩) i c5) i (D.map din)):=Lib.hid (ownsRow_below HTR.out.1 (fun k _ hk=>Below.heap_alloc _ _ k hk));have HNW2:=Lib.hid (newsL w6 3 [.int .i64 ((d3:Nat):Int)]);have HBB4:Hid (w.heap.size≤(w6.alloc (.cells #[.int .i64 ((d3:Nat):Int)] 3)).heap.size):=Lib.hid (by simp;omega))|(refine wpList_append_lies _ rfl _ _ 22 rfl w.heap.size 3 i0 _ 1 8 Tryz.underlying22 hi hz0 hz1 hz2 rfl (by decide) (.slice (some ⟨g5,0,none⟩) i c5) i (D.map din) rfl HRB.out ⟨w6.heap.size,0,none⟩ 1 1 [.int .i64 ((d3:Nat):Int)] rfl rfl HNW2.out (by simp [Value.oneCell']) (by decide) HBB1.out HBB2.out HBB4.out _ rfl ?_;intro g7 c7 w7 hown7 hgr7 hat7 hlt7;have HTS:=Lib.hid (two_rows (u':= .slice (some ⟨g7,0,none⟩) (i+1) c7) HTR.out.1 HO6.out (HTR.out.2.1.symm) hg6 hgr7 hat7 rfl rfl);have HO7:Hid (RowN w.heap.size w7 (.slice (some ⟨g7,0,none⟩) (i+1) c7) (i+1) (D++[d3])):=Lib.hid (by unfold RowN;rw [List.map_append];exact hown7);clear hown7 hgr7 hat7))
           go_wp2_with fail
           go_roundw
           case rel=>exact ⟨i+1,_,_,by omega,by go_num,HI.out.next HND.out HSTEP.out HTS.out.1 HO7.out HTS.out.2.1.symm (HXw9.out.more (HTR.out.2.2.trans HTS.out.2.2))⟩
           case measure=>simp [intOf];omega
       ·have hyb:(na != (i:Int)-(s1:Int))=true:=by rw [bne_iff_ne];exact hy
        have HNO:=Lib.hid (HNB.out (.inl hy))
        clear hna hy HNB HSP
        go_wp2_with fail
        refine (HOP.out _).mono ?_
        rintro e w2 ⟨rfl,rfl⟩
        go_wp2_with fail
        refine (HPL.out _).mono ?_
        rintro e w3 ⟨rfl,hx3⟩
        have HXB:=Lib.hid (HX.out.trans (HXA.out.trans hx3))
        have HB3:=Lib.hid (HBN.out.ext hx3)
        obtain ⟨q0,q1,q2,q3,q4⟩:=HB3.out.five
        have HS4:=Lib.hid (HR4.out.ext (HXA.out.trans hx3))
        have HS5:=Lib.hid (HR5.out.ext (HXA.out.trans hx3))
        have hgw3:w.heap.size≤w3.heap.size:=HXB.out.size
        clear hx3
        have hr4:=HG4.out w3 HS4.out
        have hr5:=HG5.out w3 HS5.out
        go_upto_region 15 with fail
        go_region
        all_goals
         obtain ⟨w8,hw8⟩:∃w8,w8=w3.drew:=⟨_,rfl⟩
         rw [←hw8]
         have HDw8:Hid (Ext w3 w8):=Lib.hid (by rw [hw8];exact (Ext.refl w3).drew)
         have HXw8:=Lib.hid (HXB.out.trans HDw8.out)
         have HBw8:=Lib.hid (HB3.out.ext HDw8.out)
         obtain ⟨q0,q1,q2,q3,q4⟩:=HBw8.out.five
         have HFw8:=Lib.hid (HS4.out.ext HDw8.out)
         have HGw8:=Lib.hid (HS5.out.ext HDw8.out)
         have hgw8:w.heap.size≤w8.heap.size:=HXw8.out.size
         clear hw8
         go_wp2_with fail
         go_ret2
         exact ⟨_,_,rfl,HXw8.out,.inl ⟨HNO.out,rfl,rfl⟩⟩
     ·have hzb:(nb != (i:Int)-1)=true:=by rw [bne_iff_ne];exact hz
      have HNO:=Lib.hid (HBAD.out (szStep_2bad hop (.inl (by rw [HSL.out];exact hz))))
      rw [hop] at HOP
      clear hop hp HBAD hz
      go_wp2_with fail
      refine (HOP.out _).mono ?_
      rintro e w2 ⟨rfl,rfl⟩
      go_wp2_with fail
      refine (HPL.out _).mono ?_
      rintro e w3 ⟨rfl,hx3⟩
      have HXB:=Lib.hid (HX.out.trans (HXA.out.trans hx3))
      have HB3:=Lib.hid (HBN.out.ext hx3)
      obtain ⟨q0,q1,q2,q3,q4⟩:=HB3.out.five
      have HS4:=Lib.hid (HR4.out.ext (HXA.out.trans hx3))
      have HS5:=Lib.hid (HR5.out.ext (HXA.out.trans hx3))
      have hgw3:w.heap.size≤w3.heap.size:=HXB.out.size
      clear hx3
      go_wp2_with fail
      go_ret2
      exact ⟨_,_,rfl,HXB.out,.inl ⟨HNO.out,rfl,rfl⟩⟩
  ·obtain rfl:i=n:=by omega
   have hgo:=HI.out.go
   rw [List.drop_eq_nil_of_le (by rw [←HN.out];exact Nat.le_refl _)] at hgo
   have HGO:Hid (szAll l=if l.length=0∨S.getD (l.length-1) 0≠l.length then none else some (S,D)):=Lib.hid (by unfold szAll;rw [hgo];rfl)
   rw [←HN.out] at HGO
   have HX:=Lib.hid hinv.ext
   have HR4:=Lib.hid hinv.r4
   have HR5:=Lib.hid hinv.r5
   have HSZ:=Lib.hid hinv.ok.size
   clear hinv hgo
   by_cases hz:i=0
   ·subst hz
    have HNO:Hid (szAll l=none):=Lib.hid (by rw [HGO.out,if_pos (.inl rfl)])
    go_wp2_with fail
    go_ret2
    exact ⟨_,_,rfl,HX.out,.inl ⟨HNO.out,rfl,rfl⟩⟩
   ·obtain ⟨g4,d4,he4,_,_⟩:=HR4.out.form (by omega)
    injection he4 with he4 _ he5
    subst he4
    clear he5
    obtain ⟨y,hy⟩:∃y:Int,y=(i:Int)-1:=⟨_,rfl⟩
    have hcell:=HR4.out.get (i-1) (by omega)
    have hj:y.toNat=i-1:=by omega
    have hzi:((i:Int) == 0)=false:=by rw [beq_eq_false_iff_ne];omega
    have hwi:IntKind.i64.wrap ((i:Int)-1)=y:=by rw [IntWalk.i64_in _ (by omega),hy]
    have hq0:(0:Int)≤y:=by omega
    have hq1:y<(i:Int):=by omega
    rw [←hj] at hcell HGO
    have HLN:=Lib.hid (And.intro HR4.out.len HR5.out.len)
    have hsv:=HSZ.out (i-1) (by have:=HR4.out.len;omega)
    rw [←hj] at hsv
    generalize S.getD y.toNat 0=sv at *
    clear hj HSZ hy hsv
    by_cases he:sv=i
    ·have HOK:Hid (szAll l=some (S,D)):=Lib.hid (by rw [HGO.out,if_neg (by omega)])
     subst he
     have hne:((sv:Int) != (sv:Int))=false:=by simp
     clear HGO hz
     go_wp2_with fail
     go_ret2
     exact ⟨_,_,rfl,HX.out,.inr ⟨S,D,HOK.out,by rw [←HN.out];exact HLN.out.1,by rw [←HN.out];exact HLN.out.2,HR4.out.arr,HR5.out.arr⟩⟩
    ·have HNO:Hid (szAll l=none):=Lib.hid (by rw [HGO.out,if_pos (.inr he)])
     have hne:((sv:Int) != (i:Int))=true:=by rw [bne_iff_ne];omega
     clear HGO hz he
     go_wp2_with fail
     go_ret2
     exact ⟨_,_,rfl,HX.out,.inl ⟨HNO.out,rfl,rfl⟩⟩
end Big
end Go.Proofs.YtaccjdbbkmhanaaGreatDoor
namespace Go.Proofs.YtaccjdbbkmhanaaGreatDoor
namespace Big
open Go.RowKit
set_option maxRecDepth 100000 in
theorem valid_any (w:World) (v:Value) (l:List Nd) (hr:RNd w v l) (hl:l.length≤1000000) (htx:∀x∈l,x.text.length≤1073741824):Calls Tryz.prog 52 #[v] w fun e w'=>e= .returned (.bool (validB l))∧Ext w w':=by
 have HS:=Lib.hid (sizes_any w v l hr hl htx)
 have HV:Hid (validB l=(decide (1≤l.length∧l.length≤200) && match szAll l with|none=>false|some (_,D)=>decide (D.getD (l.length-1) 0≤40))):=Lib.hid rfl
 obtain ⟨A,c,rfl,_⟩:=hr
 generalize validB l=r at *
 clear htx
 obtain ⟨n,hn⟩:∃n,n=l.length:=⟨_,rfl⟩
 have HN:=Lib.hid hn
 rw [←hn] at hl HV HS ⊢
 clear hn
 by_cases h1:n<1
 ·obtain rfl:n=0:=by omega
  clear HS h1
  go_enter Tryz.func52,Tryz.ntmps52
  go_wp2_with fail
  go_ret
  exact ⟨by rw [HV.out];rfl,Ext.refl w⟩
 ·have h1b:decide ((n:Int)<1)=false:=decide_eq_false (by omega)
  have h1c:¬((n:Int)<1):=by omega
  by_cases h2:200<n
  ·have h2b:decide ((n:Int)>200)=true:=decide_eq_true (by omega)
   have h2c:(200:Int)<(n:Int):=by omega
   have hd:decide (1≤n∧n≤200)=false:=decide_eq_false (by omega)
   rw [hd] at HV
   clear HS h1 h2 hd
   go_enter Tryz.func52,Tryz.ntmps52
   go_wp2_with fail
   go_ret
   exact ⟨by rw [HV.out];rfl,Ext.refl w⟩
  ·have h2b:decide ((n:Int)>200)=false:=decide_eq_false (by omega)
   have h2c:¬(200:Int)<(n:Int):=by omega
   have hd:decide (1≤n∧n≤200)=true:=decide_eq_true (by omega)
   rw [hd,Bool.true_and] at HV
   have h1n:1≤n:=by omega
   clear h1 h2 hd
   go_enter Tryz.func52,Tryz.ntmps52
   go_wp2_with fail
   refine HS.out.mono ?_
   rintro e w1 ⟨v1,v2,rfl,hx,hp⟩
   have HX:=Lib.hid hx
   clear hx
   rcases hp with ⟨hs,rfl,rfl⟩|⟨S,D,hs,hsl,hdl,h4,h5⟩
   ·rw [hs] at HV
    clear hs
    go_wp2_with fail
    go_ret
    exact ⟨by rw [HV.out];rfl,HX.out⟩
   ·rw [hs] at HV
    have HV2:Hid (r=decide (D.getD (n-1) 0≤40)):=Lib.hid HV.out
    clear HV
    obtain ⟨A4,c4,rfl,_⟩:=h4.open
    obtain ⟨A5,c5,rfl,h6⟩:=h5.open
    rw [←HN.out] at hsl hdl
    rw [hdl] at h6
    obtain ⟨g5,o5,rfl,_,h7⟩:=h6 (by omega)
    have h8:=h7 (n-1) (by omega)
    obtain ⟨y,hy⟩:∃y:Int,y=(n:Int)-1:=⟨_,rfl⟩
    have hj:y.toNat=n-1:=by omega
    rw [←hj] at h8 HV2
    have hw:IntKind.i64.wrap ((n:Int)-1)=y:=by rw [IntWalk.i64_in _ (by omega),hy]
    have hq0:(0:Int)≤y:=by omega
    have hq1:y<(n:Int):=by omega
    generalize D.getD y.toNat 0=dv at *
    have hs0:(0:Int)<(n:Int):=by omega
    have hdv:decide (dv≤40)=decide ((dv:Int)≤40):=by rw [decide_eq_decide];omega
    have HDV:=Lib.hid hdv
    rw [hsl,hdl]
    clear hs h4 h5 h6 h7 hj hy hdv hsl hdl
    go_wp2_with fail
    go_ret
    exact ⟨by rw [HV2.out,HDV.out];rfl,HX.out⟩
theorem flat_text (e:Ex) (hg:e.Good):∀off,∀x∈flat off e,x.text.length≤1073741824:=by
 induction e with
 |leaf k t=>
  intro off x hx
  rw [flat,List.mem_singleton] at hx
  subst hx
  rcases hg with ⟨_,_,h⟩|⟨_,h⟩|⟨_,rfl⟩
  ·simp only;omega
  ·have:=wordB_le (Bool.and_eq_true_iff.1 h).1
   simp only;omega
  ·simp
 |un k n x ih=>
  intro off y hy
  rw [flat,List.mem_append,List.mem_singleton] at hy
  rcases hy with hy|rfl
  ·exact ih hg.2.2.2.2 off y hy
  ·simp
 |bin k x z ihx ihy=>
  intro off y hy
  rw [flat,List.mem_append,List.mem_append,List.mem_singleton] at hy
  rcases hy with hy|hy|rfl
  ·exact ihx hg.2.1 _ y hy
  ·exact ihy hg.2.2 _ y hy
  ·simp
theorem AtEx.whole (e:Ex):AtEx (flat 0 e) (e.size-1) e:=⟨[],[],by simp,by have:=e.size_pos;simp;omega⟩
def wayT (m:Int) (s:List UInt8):List UInt8:=if m=0 then 40::(s++[41]) else if m=1 then 32::(s++[32,32]) else s
end Big
end Go.Proofs.YtaccjdbbkmhanaaGreatDoor
namespace Go.Proofs.YtaccjdbbkmhanaaGreatDoor
namespace Big
open Go.RowKit
def MaxV (w:World):Prop:=∃m:Int,w.cell? ⟨0,0,none⟩=some (.int .i64 m)
theorem MaxV.ext {w w':World} (h:MaxV w) (hx:Ext w w'):MaxV w':=by
 obtain ⟨m,h⟩:=h
 exact ⟨m,hx.keep h⟩
theorem maxV_of_shaped {w:World} (h:w.ShapedOpen Tryz.prog):MaxV w:=Tryz.laysM145.s1_3 w h
theorem cut_any (w:World) (l:List UInt8) (hl:l.length≤1073741824) (hm:MaxV w):
  Calls Tryz.prog 93 #[str l,.string ⟨#[46]⟩] w fun e w'=>e= .returned (.tuple #[str (whole l),str (part l),.bool (hasDot l)])∧Ext w w':=by
 obtain ⟨m,hm⟩:=hm
 have h:=Any.strings_Cut { Tryz.laysM145 with } ⟨l.toArray⟩ ⟨#[46]⟩ m w (by rw [size_str];omega) hm
 have e:=cut_dot l
 have e1:Lib.cut (⟨l.toArray⟩:ByteArray).data.toList (⟨#[46]⟩:ByteArray).data.toList=(whole l,part l,hasDot l):=e
 rw [e1] at h
 refine h.mono ?_
 rintro e w' ⟨rfl,n,rfl⟩
 exact ⟨rfl,(Ext.refl w).drewN n⟩
theorem trimZ_any (w:World) (l:List UInt8):
  Calls Tryz.prog 94 #[str l,.string ⟨#[48]⟩] w fun e w'=>e= .returned (str (l.dropWhile (· == 48)))∧w=w':=by
 refine (Tryz.strings_TrimLeft_one ⟨l.toArray⟩ 48 (by decide) w).mono ?_
 rintro e w' ⟨rfl,rfl⟩
 exact ⟨rfl,rfl⟩
theorem trimD_any (w:World) (l:List UInt8) (hl:l.length≤1073741824) (h:l.all isDig=true):
  Calls Tryz.prog 96 #[str l,.string ⟨#[48,49,50,51,52,53,54,55,56,57]⟩] w fun e w'=>e= .returned (str [])∧Ext w w':=by
 refine (Any.strings_Trim_laid Tryz.lays160 (by kernel_rfl) ⟨l.toArray⟩ ⟨#[48,49,50,51,52,53,54,55,56,57]⟩ w (by rw [size_str];omega) (by decide) (ascii_of_all (by decide))).mono ?_
 rintro e w' ⟨rfl,hb⟩
 have e1:Lib.trimS (⟨l.toArray⟩:ByteArray).data.toList (⟨#[48,49,50,51,52,53,54,55,56,57]⟩:ByteArray).data.toList=[]:=trimS_all l h
 rw [e1]
 exact ⟨rfl,hb⟩
end Big
end Go.Proofs.YtaccjdbbkmhanaaGreatDoor
