import Derived.Test.YtkoaogkknnelaaaGreatDoorM17
import Derived.Deep.AppendLies
import Derived.Lib.MinMax
import Derived.Shelf.Strings.SlTrimAscii
set_option linter.unusedVariables false
set_option linter.unusedSimpArgs false
set_option maxHeartbeats 4000000
set_option maxRecDepth 100000
namespace Go.Proofs.YtkoaogkknnelaaaGreatDoor
namespace Big
open Lib (hid)
open Go.RowKit
theorem JD:(Tryz.prog.info? 3).map (fun i=>(i.zero,i.size,i.bytes))=some (some (.int .i64 0),1,8):=by kernel_rfl
def din(n:Nat):Value:= .int .i64 (n:Int)
def SO(w:World)(v:Value)(l:List Nat):Prop:=Eb w v (l.map din)
section
variable {w w':World} {v:Value} {l:List Nat} {B B':Nat}
theorem Ik{j:Nat}(hj:j<l.length):(l.map din)[j]? =some (din l[j]):=by
 rw[List.getElem?_map,List.getElem?_eq_getElem hj];rfl
theorem SO.open(h:SO w v l):∃A c,v= .slice A l.length c/\
  (0<l.length->∃b o,A=some ⟨b,o,none⟩/\b<w.heap.size/\∀j (_hj:j<l.length),w.cell? ⟨b,o+j,none⟩=some (.int .i64 ((l.getD j 0:Nat):Int))):=by
 obtain⟨A,c,rfl,h2,h3,h4⟩:=h;rw[List.length_map]at h2 h4;refine⟨A,c,by rw[List.length_map],fun hp=> ?_⟩;obtain⟨b,o,rfl,hlt,hc⟩:=h4 hp;exact⟨b,o,rfl,hlt,fun j hj=>by
  rw[hc j _ (Ik hj),List.getD_eq_getElem?_getD,List.getElem?_eq_getElem hj];rfl⟩
end
def BA(B:Nat)(w:World)(v:Value)(n:Nat)(S:List Nat):Prop:=w.ownsRow B 3 1 v n (S.map din)
def En(v u:Value):Prop:=∀g,v.ownBlock=some g->u.ownBlock≠some g
theorem BA.len{B n:Nat}{w:World}{v:Value}{S:List Nat}(h:BA B w v n S):S.length=n:=by
 have:=h.1;rw[List.length_map,Nat.mul_one]at this;exact this
theorem BA.get{B n g c:Nat}{w:World}{S:List Nat}(h:BA B w (.slice (some ⟨g,0,none⟩) n c) n S)(j:Nat)(hj:j<n):w.cell? ⟨g,j,none⟩=some (.int .i64 ((S.getD j 0:Nat):Int)):=by
 have h1:=h.cellAt j (by omega);have h2:=h.len;rw[h1,List.getElem?_map,List.getD_eq_getElem?_getD,List.getElem?_eq_getElem (by omega)];rfl
theorem BA.ext{B n:Nat}{w w':World}{v:Value}{S:List Nat}(h:BA B w v n S)(hx:Ext w w'):BA B w' v n S:=Aj h (fun _ _ hg=>Below.block hx _ hg)
theorem BA.arr{B n:Nat}{w:World}{v:Value}{S:List Nat}(h:BA B w v n S):SO w v S:=by
 have hl:=h.len;rcases h.2 with ⟨rfl,h2⟩|⟨g,cap,cur,rfl,hb,hg,hc,hm,hs,ht⟩
 ·have:S=[]:=List.eq_nil_of_length_eq_zero (by omega);subst this;exact Eb.none_ w
 ·refine⟨_,_,by rw[List.length_map,hl],by rw[List.length_map,hl];exact hc,hm,fun _=>⟨g,0,rfl,?_,fun j u hj=> ?_⟩⟩
  ·rcases Nat.lt_or_ge g w.heap.size with h|h
   ·exact h
   ·rw[Array.getElem?_eq_none h]at hg;cases hg
  ·have rS:j<n:=by
    rcases Nat.lt_or_ge j n with h|h
    ·exact h
    ·rw[List.getElem?_eq_none (by rw[List.length_map];omega)]at hj;cases hj
   rw[Nat.zero_add,h.cellAt j (by omega),hj]
theorem BA.blt{B n:Nat}{w:World}{v:Value}{S:List Nat}(h:BA B w v n S)(g:Nat)(hg:v.ownBlock=some g):B<=g/\g<w.heap.size:=by
 rcases h.2 with ⟨rfl,h2⟩|⟨g',cap,cur,rfl,hb,hh,_⟩
 ·cases hg
 ·simp only[Value.ownBlock,Option.some.injEq]at hg;subst hg;refine⟨hb,?_⟩;rcases Nat.lt_or_ge g' w.heap.size with h|h
  ·exact h
  ·rw[Array.getElem?_eq_none h]at hh;cases hh
theorem Ev {B n m:Nat} {W w':World} {v u:Value} {S D:List Nat} {o:Obj} {g H:Nat} {u':Value} (h4:BA B W v n S) (h5:BA B W u m D) (fK:En v u) (hB:B<=W.heap.size)
  (aQ:(W.alloc o).grownBy w' v.ownBlock) (hat:v.ownBlock=some g\/g=H) (hH:(W.alloc o).heap.size=H) (hu:u'.ownBlock=some g):BA B w' u m D/\En u' u/\Below B W w':=by
 have hs:(W.alloc o).heap.size=W.heap.size+1:=by simp
 refine⟨?_,fun k hk he=> ?_,?_⟩
 ·refine(h5.kept (row:=none) (World.grownBy_alloc W o none) (by cases hv:u.ownBlock<;>simp)).kept aQ ?_
  cases hu5:u.ownBlock with
  |none=>exact .inl rfl
  |some k=>exact .inr (fun he=>fK k he.symm hu5)
 ·rw[hu]at hk;injection hk with hk
  subst hk;rcases hat with hat|hat
  ·exact fK g hat he
  ·have:=(h5.blt g he).2;omega
 ·exact Below.grown ((Below.refl B W).alloc hB o) aQ (by omega) (fun k hk=>(h4.blt k hk).1)
theorem En.symm{v u:Value}(h:En v u):En u v:=fun g h1 h2=>h g h2 h1
def QD(l:List Nd)(w:World)(e:Ending)(w':World):Prop:=
 ∃v1 v2,e= .returned (.tuple #[v1,v2])/\Ext w w'/\((Ef l=none/\v1= .slice none 0 0/\v2= .slice none 0 0)\/∃S D,Ef l=some (S,D)/\S.length=l.length/\D.length=l.length/\SO w' v1 S/\SO w' v2 D)
structure JP (l:List Nd) (w:World) (i:Nat) (S D:List Nat) (v u:Value) (wr:World):Prop where
 ok:Oc S D
 go:F1 [] [] l=F1 S D (l.drop i)
 r4:BA w.heap.size wr v i S
 r5:BA w.heap.size wr u i D
 apart:En v u
 ext:Ext w wr
theorem DN{l:List Nd}{i:Nat}{nd:Nd}(h:l[i]? =some nd):l.drop i=nd::l.drop (i+1):=by
 obtain⟨hi,he⟩:=List.getElem?_eq_some_iff.1 h;rw[List.drop_eq_getElem_cons hi,he]
theorem JP.bad{l:List Nd}{w wr:World}{i:Nat}{S D:List Nat}{v u:Value}{nd:Nd}(h:JP l w i S D v u wr)(hn:l[i]? =some nd)(hs:Ba S D nd=none):Ef l=none:=by
 have h1:=h.go;rw[DN hn,F1,hs]at h1;unfold Ef;rw[h1]
theorem JP.next {l:List Nd} {w wr w':World} {i s d:Nat} {S D:List Nat} {v u v' u':Value} {nd:Nd} (h:JP l w i S D v u wr) (hn:l[i]? =some nd) (hs:Ba S D nd=some (s,d))
  (h4:BA w.heap.size w' v' (i+1) (S++[s])) (h5:BA w.heap.size w' u' (i+1) (D++[d])) (fK:En v' u') (hx:Ext w w'):JP l w (i+1) (S++[s]) (D++[d]) v' u' w':=by
 have h1:=h.go;rw[DN hn,F1,hs]at h1;exact⟨(h.ok.step hs).2.2,h1,h4,h5,fK,hx⟩
section
variable {S D:List Nat} {k a b n:Int} {t:List UInt8}
theorem M9(h:Ay k= -1):Ba S D ⟨k,a,b,n,t⟩=none:=by
 unfold Ba;rw[if_pos (.inl (by simp only[h];decide))]
theorem EH(h:Az ⟨k,a,b,n,t⟩=false):Ba S D ⟨k,a,b,n,t⟩=none:=by
 unfold Ba;rw[if_pos (.inr (.inl h))]
theorem QV(h:Ay k=0)(h2:a≠0):Ba S D ⟨k,a,b,n,t⟩=none:=by
 unfold Ba;rw[if_pos (.inr (.inr (.inl ⟨by simp only[h];decide,h2⟩)))]
theorem LO(h:Ay k<2)(h2:b≠0):Ba S D ⟨k,a,b,n,t⟩=none:=by
 unfold Ba;rw[if_pos (.inr (.inr (.inr ⟨h,h2⟩)))]
theorem Q0(h:Ay k=0)(hp:Az ⟨k,0,0,n,t⟩=true):Ba S D ⟨k,0,0,n,t⟩=some (1,1):=by
 unfold Ba;rw[hp];simp only[h];simp
theorem QZ(h:Ay k=1)(hp:Az ⟨k,a,0,n,t⟩=true)(ha:a=(S.length:Int)-1)(h0:0<=a):Ba S D ⟨k,a,0,n,t⟩=some (S.getD a.toNat 0+1,D.getD a.toNat 0+1):=by
 unfold Ba;rw[hp];simp only[h];rw[if_neg (by simp),if_neg (by decide),if_pos trivial,if_neg (by omega),Nat.max_eq_right (by omega)]
theorem HJ(h:Ay k=1)(ha:a≠(S.length:Int)-1\/a<0):Ba S D ⟨k,a,b,n,t⟩=none:=by
 unfold Ba;simp only[h];split
 ·rfl
 ·simp
theorem Hz(h:Ay k=2)(ha:b≠(S.length:Int)-1\/b<0):Ba S D ⟨k,a,b,n,t⟩=none:=by
 unfold Ba;simp only[h];split
 ·rfl
 ·simp
theorem KX(h:Ay k=2)(ha:a≠(S.length:Int)-((S.getD b.toNat 0+1:Nat):Int)\/a<0):Ba S D ⟨k,a,b,n,t⟩=none:=by
 unfold Ba;simp only[h];split
 ·rfl
 ·simp only[Int.reduceEq,if_false];split
  ·rfl
  ·first|rfl|simp[ha]
theorem QW(h:Ay k=2)(hp:Az ⟨k,a,b,n,t⟩=true)(hb:b=(S.length:Int)-1)(hb0:0<=b)(ha:a=(S.length:Int)-((S.getD b.toNat 0+1:Nat):Int))(h0:0<=a):
  Ba S D ⟨k,a,b,n,t⟩=some (S.getD b.toNat 0+1+S.getD a.toNat 0,max (D.getD b.toNat 0+1) (D.getD a.toNat 0+1)):=by
 unfold Ba;rw[hp];simp only[h];rw[if_neg (by simp),if_neg (by decide),if_neg (by decide),if_neg (by omega),if_neg (by omega),Nat.max_eq_right (a:=1) (by omega)]
end
theorem Fk(k:Int):Ay k= -1\/Ay k=0\/Ay k=1\/Ay k=2:=by
 unfold Ay
 repeat' split
 all_goals simp
theorem Pd(w:World)(v:Value)(l:List Nd)(hr:RNd w v l)(hl:l.length<=1000000)(nh:∀x∈l,x.text.length<=1073741824):Calls Tryz.prog 131 #[v] w (QD l w):=by
 have HR:=hid hr;have VN:=hid nh;obtain⟨i0,hi,aE,hz1,ba⟩:=info_parts JD;obtain⟨A,c,rfl,_⟩:=hr;clear nh;have bG:Hid (JP l w 0 [] [] (.slice none 0 0) (.slice none 0 0) w):=hid ⟨Oc.nil,rfl,⟨rfl,.inl ⟨rfl,rfl⟩⟩,⟨rfl,.inl ⟨rfl,rfl⟩⟩,(fun g h=>by cases h),Ext.refl w⟩;obtain⟨n,hn⟩:∃n,n=l.length:=⟨_,rfl⟩;have HN:=hid hn;rw[<-hn]at hl ⊢;clear hn;go_enter Tryz.func131,Tryz.ntmps131;go_wp2_with fail;go_loopw [4,5,14] (fun s4 s5 s14 wr=>∃(i:Nat) (S D:List Nat),i<=n/\s14= .int .i64 (i:Int)/\JP l w i S D s4 s5 wr) (fun _ _ s14 _=>n-(intOf s14).toNat)
 case atStart=>exact⟨0,[],[],Nat.zero_le _,rfl,bG.out⟩
 case round=>
  obtain⟨i,S,D,hin,rfl,a5⟩:=hrel;have HI:=hid a5;obtain⟨A4,c4,rfl⟩:=AN a5.r4;obtain⟨A5,c5,rfl⟩:=AN a5.r5;clear bG;by_cases hlt:i<n
  ·have kA:i<l.length:=by rw[<-HN.out];exact hlt
   have HIL:=hid kA;obtain⟨A',c',he,hc⟩:=HR.out.ext a5.ext;obtain⟨b,o,St,hb,hc⟩:=hc (by omega);obtain⟨nd,jF,hat,oW⟩:∃nd,l[i]? =some nd/\Oe wr b (o+i*5) nd/\nd.text.length<=1073741824:=⟨l[i],List.getElem?_eq_getElem kA,hc i kA,VN.out _ (List.getElem_mem kA)⟩
   injection he with he1 he2 he3
   subst he1;clear he2 he3;subst St;have aD:Hid (Ba S D nd=none->Ef l=none):=hid (fun h=>a5.bad jF h);have dw:=hid jF;clear jF hc;have hw:wr.heap.size>=w.heap.size:=a5.ext.size;have HX:=hid a5.ext;have jU:=a5.r4.len;have kV:=a5.r5.len;have mn:=hid jU;have HDL:=hid kV;have yB:=a5.ok.size;have zD:=a5.ok.depth;rw[jU]at yB zD;have VW:=hid yB;have WA:=hid zD;have dC:=hid a5.r4;have cX:=hid a5.r5;clear a5 kA jU kV yB zD;obtain⟨kd,na,nb,nn,nt⟩:=nd;have cC:=hid (fun W=>Ks W ⟨kd,na,nb,nn,nt⟩ oW);simp only[ndV]at cC;obtain⟨k0,k1,k2,k3,k4⟩:=hat;simp only at k0 k1 k2 k3 k4;obtain⟨s,hs⟩:∃s:ByteArray,s=⟨nt.toArray⟩:=⟨_,rfl⟩;have hst:str nt= .string s:=by rw[hs];rfl
   rw[hst]at cC k4;clear hs hst oW;have aT:=hid (fun W=>BB W kd);have key:=Fk kd;have ZW:∃p,p=Az ⟨kd,na,nb,nn,nt⟩:=⟨_,rfl⟩;obtain⟨p,hp⟩:=ZW;rw[<-hp]at cC;have hb0:=Blk.new wr 95 #[.int .i64 kd,.int .i64 na,.int .i64 nb,.int .i64 nn,.string s];have bj:=hid ((Ext.refl wr).alloc (.cells #[.int .i64 kd,.int .i64 na,.int .i64 nb,.int .i64 nn,.string s] 95));have dG:=hid hb0;have q0:=hb0.five;clear hb0;rcases key with aS|aS|aS|aS
   ·have co:=hid (aD.out (M9 aS));rw[aS]at aT;clear aS hp aD;go_wp2_with fail;refine(aT.out _).mono ?_
    rintro e w2 ⟨rfl,rfl⟩;go_wp2_with fail;go_ret2;exact⟨_,_,rfl,HX.out.trans bj.out,.inl ⟨co.out,rfl,rfl⟩⟩
   ·cases hpb:p
    ·rw[hpb]at hp cC;clear hpb;have co:=hid (aD.out (EH hp.symm));rw[aS]at aT;clear aS hp aD;go_wp2_with fail;refine(aT.out _).mono ?_
     rintro e w2 ⟨rfl,rfl⟩;go_wp2_with fail;refine(cC.out _).mono ?_
     rintro e w3 ⟨rfl,ab⟩;have dc:=hid (HX.out.trans (bj.out.trans ab));have a8:=hid (dG.out.ext ab);have q0:=a8.out.five;have ej:=hid (dC.out.ext (bj.out.trans ab));have im:=hid (cX.out.ext (bj.out.trans ab));have dJ:w.heap.size<=w3.heap.size:=dc.out.size;clear ab;go_wp2_with fail;go_ret2;exact⟨_,_,rfl,dc.out,.inl ⟨co.out,rfl,rfl⟩⟩
    ·rw[hpb]at hp cC;clear hpb;by_cases ha:na=0
     ·subst ha;by_cases hb:nb=0
      ·subst hb;have jw:Hid (Ba S D ⟨kd,0,0,nn,nt⟩=some (1,1)):=hid (Q0 aS hp.symm);rw[aS]at aT;clear aS hp;go_wp2_with fail;refine(aT.out _).mono ?_
       rintro e w2 ⟨rfl,rfl⟩;go_wp2_with fail;refine(cC.out _).mono ?_
       rintro e w3 ⟨rfl,ab⟩;have dc:=hid (HX.out.trans (bj.out.trans ab));have a8:=hid (dG.out.ext ab);have q0:=a8.out.five;have ej:=hid (dC.out.ext (bj.out.trans ab));have im:=hid (cX.out.ext (bj.out.trans ab));have dJ:w.heap.size<=w3.heap.size:=dc.out.size;clear ab;have dd:=hid (jw.out);have dE:Hid (i+1<=maxLen):=hid (by unfold maxLen;omega);have dD:Hid ((i+1)*8<=140737488355328):=hid (by omega);have fj:Hid ((w3.alloc (.cells #[.int .i64 1] 3)).ownsRow w.heap.size 3 1 (.slice A4 i c4) i (S.map din)):=hid (Aj ej.out (fun k _ hk=>Below.heap_alloc _ _ k hk));have fF:=hid (C3 w3 3 [.int .i64 1]);have ew:Hid (w.heap.size<=(w3.alloc (.cells #[.int .i64 1] 3)).heap.size):=hid (by simp;omega);clear aD;go_wp2_with (at_builtin;first|(refine wpList_append_lies _ rfl _ _ 41 rfl w.heap.size 3 i0 _ 1 8 Tryz.underlying41 hi aE hz1 ba rfl (by decide) (.slice A4 i c4) i (S.map din) rfl fj.out ⟨w3.heap.size,0,none⟩ 1 1 [.int .i64 1] rfl rfl fF.out (by simp[Value.oneCell']) (by decide) dE.out dD.out ew.out _ rfl ?_;intro g6 c6 w6 bh cw cG gr;have cR:=hid (Ev (u':= .slice (some ⟨g6,0,none⟩) (i+1) c6) ej.out im.out (HI.out.apart) dJ cw cG rfl rfl);have gD:Hid (BA w.heap.size w6 (.slice (some ⟨g6,0,none⟩) (i+1) c6) (i+1) (S++[1])):=hid (by unfold BA;rw[List.map_append];exact bh);have iU:w.heap.size<=w6.heap.size:=Nat.le_trans dJ cR.out.2.2.size;clear bh cw cG;have ow:Hid ((w6.alloc (.cells #[.int .i64 1] 3)).ownsRow w.heap.size 3 1 (.slice A5 i c5) i (D.map din)):=hid (Aj cR.out.1 (fun k _ hk=>Below.heap_alloc _ _ k hk));have fN:=hid (C3 w6 3 [.int .i64 1]);have oQ:Hid (w.heap.size<=(w6.alloc (.cells #[.int .i64 1] 3)).heap.size):=hid (by simp;omega))|(refine wpList_append_lies _ rfl _ _ 41 rfl w.heap.size 3 i0 _ 1 8 Tryz.underlying41 hi aE hz1 ba rfl (by decide) (.slice A5 i c5) i (D.map din) rfl ow.out ⟨w6.heap.size,0,none⟩ 1 1 [.int .i64 1] rfl rfl fN.out (by simp[Value.oneCell']) (by decide) dE.out dD.out oQ.out _ rfl ?_;intro g7 c7 w7 cA db dA mf;have d7:=hid (Ev (u':= .slice (some ⟨g7,0,none⟩) (i+1) c7) cR.out.1 gD.out (cR.out.2.1.symm) iU db dA rfl rfl);have tl:Hid (BA w.heap.size w7 (.slice (some ⟨g7,0,none⟩) (i+1) c7) (i+1) (D++[1])):=hid (by unfold BA;rw[List.map_append];exact cA);clear cA db dA));go_wp2_with fail;go_roundw
       case rel=>exact⟨i+1,_,_,by omega,by go_num,HI.out.next dw.out dd.out d7.out.1 tl.out d7.out.2.1.symm (dc.out.more (cR.out.2.2.trans d7.out.2.2))⟩
       case measure=>simp[intOf];omega
      ·have dK:(nb != 0)=true:=by rw[bne_iff_ne];exact hb
       have co:=hid (aD.out (LO (by omega) hb));rw[aS]at aT;clear aS hp aD hb;go_wp2_with fail;refine(aT.out _).mono ?_
       rintro e w2 ⟨rfl,rfl⟩;go_wp2_with fail;refine(cC.out _).mono ?_
       rintro e w3 ⟨rfl,ab⟩;have dc:=hid (HX.out.trans (bj.out.trans ab));have a8:=hid (dG.out.ext ab);have q0:=a8.out.five;have ej:=hid (dC.out.ext (bj.out.trans ab));have im:=hid (cX.out.ext (bj.out.trans ab));have dJ:w.heap.size<=w3.heap.size:=dc.out.size;clear ab;go_wp2_with fail;go_ret2;exact⟨_,_,rfl,dc.out,.inl ⟨co.out,rfl,rfl⟩⟩
     ·have zT:(na != 0)=true:=by rw[bne_iff_ne];exact ha
      have co:=hid (aD.out (QV aS ha));rw[aS]at aT;clear aS hp aD ha;go_wp2_with fail;refine(aT.out _).mono ?_
      rintro e w2 ⟨rfl,rfl⟩;go_wp2_with fail;refine(cC.out _).mono ?_
      rintro e w3 ⟨rfl,ab⟩;have dc:=hid (HX.out.trans (bj.out.trans ab));have a8:=hid (dG.out.ext ab);have q0:=a8.out.five;have ej:=hid (dC.out.ext (bj.out.trans ab));have im:=hid (cX.out.ext (bj.out.trans ab));have dJ:w.heap.size<=w3.heap.size:=dc.out.size;clear ab;go_wp2_with fail;go_ret2;exact⟨_,_,rfl,dc.out,.inl ⟨co.out,rfl,rfl⟩⟩
   ·cases hpb:p
    ·rw[hpb]at hp cC;clear hpb;have co:=hid (aD.out (EH hp.symm));rw[aS]at aT;clear aS hp aD;go_wp2_with fail;refine(aT.out _).mono ?_
     rintro e w2 ⟨rfl,rfl⟩;go_wp2_with fail;refine(cC.out _).mono ?_
     rintro e w3 ⟨rfl,ab⟩;have dc:=hid (HX.out.trans (bj.out.trans ab));have a8:=hid (dG.out.ext ab);have q0:=a8.out.five;have ej:=hid (dC.out.ext (bj.out.trans ab));have im:=hid (cX.out.ext (bj.out.trans ab));have dJ:w.heap.size<=w3.heap.size:=dc.out.size;clear ab;go_wp2_with fail;go_ret2;exact⟨_,_,rfl,dc.out,.inl ⟨co.out,rfl,rfl⟩⟩
    ·rw[hpb]at hp cC;clear hpb;by_cases hb:nb=0
     ·subst hb;have p7:IntKind.i64.wrap ((i:Int)-1)=(i:Int)-1:=IntWalk.i64_in _ (by omega);by_cases hz:na=(i:Int)-1
      ·by_cases hz0':na<0
       ·have eS:(na != (i:Int)-1)=false:=by rw[hz];simp
        have ul:decide (na<0)=true:=decide_eq_true hz0';have co:=hid (aD.out (HJ aS (.inr hz0')));rw[aS]at aT;clear aS hp aD hz;go_wp2_with fail;refine(aT.out _).mono ?_
        rintro e w2 ⟨rfl,rfl⟩;go_wp2_with fail;refine(cC.out _).mono ?_
        rintro e w3 ⟨rfl,ab⟩;have dc:=hid (HX.out.trans (bj.out.trans ab));have a8:=hid (dG.out.ext ab);have q0:=a8.out.five;have ej:=hid (dC.out.ext (bj.out.trans ab));have im:=hid (cX.out.ext (bj.out.trans ab));have dJ:w.heap.size<=w3.heap.size:=dc.out.size;clear ab;go_wp2_with fail;go_ret2;exact⟨_,_,rfl,dc.out,.inl ⟨co.out,rfl,rfl⟩⟩
       ·have gS:0<=na:=by omega
        have eS:(na != (i:Int)-1)=false:=by rw[hz];simp
        have ul:decide (na<0)=false:=decide_eq_false hz0';have jZ:0<i:=by omega
        obtain⟨g4,d4,fU,zO,zg⟩:=dC.out.form jZ;injection fU with fU _ he5
        subst fU;subst he5;obtain⟨g5,d5,fU,so,rK⟩:=cX.out.form jZ;injection fU with fU _ he5
        subst fU;subst he5;have m7:na.toNat<i:=by omega
        have wM:Hid (∀W,BA w.heap.size W (.slice (some ⟨g4,0,none⟩) i c4) i S->W.cell? ⟨g4,na.toNat,none⟩=some (.int .i64 ((S.getD na.toNat 0:Nat):Int))):=hid (fun W h=>h.get _ m7);have wL:Hid (∀W,BA w.heap.size W (.slice (some ⟨g5,0,none⟩) i c5) i D->W.cell? ⟨g5,na.toNat,none⟩=some (.int .i64 ((D.getD na.toNat 0:Nat):Int))):=hid (fun W h=>h.get _ m7);have hsb:=VW.out na.toNat m7;have t4:=WA.out na.toNat m7;have m9:na<(i:Int):=by omega
        have jw:Hid (Ba S D ⟨kd,na,0,nn,nt⟩=some (S.getD na.toNat 0+1,D.getD na.toNat 0+1)):=hid (QZ aS hp.symm (by rw[mn.out];exact hz) gS);generalize S.getD na.toNat 0=sv at *;generalize D.getD na.toNat 0=dv at *;have aZ:IntKind.i64.wrap (1+(sv:Int))=((sv+1:Nat):Int):=by rw[IntWalk.i64_in _ (by omega)];omega
        have cx:IntKind.i64.wrap ((dv:Int)+1)=((dv+1:Nat):Int):=by rw[IntWalk.i64_in _ (by omega)];omega
        have dT:max (1:Int) ((dv+1:Nat):Int)=((dv+1:Nat):Int):=by omega
        obtain⟨s1,hs1⟩:∃s1,s1=sv+1:=⟨_,rfl⟩;obtain⟨d1,ee⟩:∃d1,d1=dv+1:=⟨_,rfl⟩;rw[<-hs1]at aZ jw;rw[<-ee]at cx dT jw;have yE:s1<=1000001:=by omega
        have zF:d1<=1000001:=by omega
        rw[aS]at aT;clear aS hp hz hs1 ee hsb t4;go_wp2_with fail;refine(aT.out _).mono ?_
        rintro e w2 ⟨rfl,rfl⟩;go_wp2_with fail;refine(cC.out _).mono ?_
        rintro e w3 ⟨rfl,ab⟩;have dc:=hid (HX.out.trans (bj.out.trans ab));have a8:=hid (dG.out.ext ab);have q0:=a8.out.five;have ej:=hid (dC.out.ext (bj.out.trans ab));have im:=hid (cX.out.ext (bj.out.trans ab));have dJ:w.heap.size<=w3.heap.size:=dc.out.size;clear ab;have ex:=wM.out w3 ej.out;have cT:=wL.out w3 im.out;go_upto_region 15 with fail;go_region
        all_goals
         obtain⟨w8,eD⟩:∃w8,w8=w3.drew:=⟨_,rfl⟩;rw[<-eD];have dO:Hid (Ext w3 w8):=hid (by rw[eD];exact(Ext.refl w3).drew);have il:=hid (dc.out.trans dO.out);have km:=hid (a8.out.ext dO.out);have q0:=km.out.five;have lq:=hid (ej.out.ext dO.out);have mz:=hid (im.out.ext dO.out);have nJ:w.heap.size<=w8.heap.size:=il.out.size;clear eD;have dd:=hid (jw.out);have dE:Hid (i+1<=maxLen):=hid (by unfold maxLen;omega);have dD:Hid ((i+1)*8<=140737488355328):=hid (by omega);have fj:Hid ((w8.alloc (.cells #[.int .i64 ((s1:Nat):Int)] 3)).ownsRow w.heap.size 3 1 (.slice (some ⟨g4,0,none⟩) i c4) i (S.map din)):=hid (Aj lq.out (fun k _ hk=>Below.heap_alloc _ _ k hk));have fF:=hid (C3 w8 3 [.int .i64 ((s1:Nat):Int)]);have ew:Hid (w.heap.size<=(w8.alloc (.cells #[.int .i64 ((s1:Nat):Int)] 3)).heap.size):=hid (by simp;omega);go_wp2_with (at_builtin;first|(refine wpList_append_lies _ rfl _ _ 41 rfl w.heap.size 3 i0 _ 1 8 Tryz.underlying41 hi aE hz1 ba rfl (by decide) (.slice (some ⟨g4,0,none⟩) i c4) i (S.map din) rfl fj.out ⟨w8.heap.size,0,none⟩ 1 1 [.int .i64 ((s1:Nat):Int)] rfl rfl fF.out (by simp[Value.oneCell']) (by decide) dE.out dD.out ew.out _ rfl ?_;intro g6 c6 w6 bh cw cG gr;have cR:=hid (Ev (u':= .slice (some ⟨g6,0,none⟩) (i+1) c6) lq.out mz.out (HI.out.apart) nJ cw cG rfl rfl);have gD:Hid (BA w.heap.size w6 (.slice (some ⟨g6,0,none⟩) (i+1) c6) (i+1) (S++[s1])):=hid (by unfold BA;rw[List.map_append];exact bh);have iU:w.heap.size<=w6.heap.size:=Nat.le_trans nJ cR.out.2.2.size;clear bh cw cG;have ow:Hid ((w6.alloc (.cells #[.int .i64 ((d1:Nat):Int)] 3)).ownsRow w.heap.size 3 1 (.slice (some ⟨g5,0,none⟩) i c5) i (D.map din)):=hid (Aj cR.out.1 (fun k _ hk=>Below.heap_alloc _ _ k hk));have fN:=hid (C3 w6 3 [.int .i64 ((d1:Nat):Int)]);have oQ:Hid (w.heap.size<=(w6.alloc (.cells #[.int .i64 ((d1:Nat):Int)] 3)).heap.size):=hid (by simp;omega))|(refine wpList_append_lies _ rfl _ _ 41 rfl w.heap.size 3 i0 _ 1 8 Tryz.underlying41 hi aE hz1 ba rfl (by decide) (.slice (some ⟨g5,0,none⟩) i c5) i (D.map din) rfl ow.out ⟨w6.heap.size,0,none⟩ 1 1 [.int .i64 ((d1:Nat):Int)] rfl rfl fN.out (by simp[Value.oneCell']) (by decide) dE.out dD.out oQ.out _ rfl ?_;intro g7 c7 w7 cA db dA mf;have d7:=hid (Ev (u':= .slice (some ⟨g7,0,none⟩) (i+1) c7) cR.out.1 gD.out (cR.out.2.1.symm) iU db dA rfl rfl);have tl:Hid (BA w.heap.size w7 (.slice (some ⟨g7,0,none⟩) (i+1) c7) (i+1) (D++[d1])):=hid (by unfold BA;rw[List.map_append];exact cA);clear cA db dA));go_wp2_with fail;go_roundw
         case rel=>exact⟨i+1,_,_,by omega,by go_num,HI.out.next dw.out dd.out d7.out.1 tl.out d7.out.2.1.symm (il.out.more (cR.out.2.2.trans d7.out.2.2))⟩
         case measure=>simp[intOf];omega
      ·have eS:(na != (i:Int)-1)=true:=by rw[bne_iff_ne];exact hz
       have co:=hid (aD.out (HJ aS (.inl (by rw[mn.out];exact hz))));rw[aS]at aT;clear aS hp aD hz;go_wp2_with fail;refine(aT.out _).mono ?_
       rintro e w2 ⟨rfl,rfl⟩;go_wp2_with fail;refine(cC.out _).mono ?_
       rintro e w3 ⟨rfl,ab⟩;have dc:=hid (HX.out.trans (bj.out.trans ab));have a8:=hid (dG.out.ext ab);have q0:=a8.out.five;have ej:=hid (dC.out.ext (bj.out.trans ab));have im:=hid (cX.out.ext (bj.out.trans ab));have dJ:w.heap.size<=w3.heap.size:=dc.out.size;clear ab;go_wp2_with fail;go_ret2;exact⟨_,_,rfl,dc.out,.inl ⟨co.out,rfl,rfl⟩⟩
     ·have dK:(nb != 0)=true:=by rw[bne_iff_ne];exact hb
      have co:=hid (aD.out (LO (by omega) hb));rw[aS]at aT;clear aS hp aD hb;go_wp2_with fail;refine(aT.out _).mono ?_
      rintro e w2 ⟨rfl,rfl⟩;go_wp2_with fail;refine(cC.out _).mono ?_
      rintro e w3 ⟨rfl,ab⟩;have dc:=hid (HX.out.trans (bj.out.trans ab));have a8:=hid (dG.out.ext ab);have q0:=a8.out.five;have ej:=hid (dC.out.ext (bj.out.trans ab));have im:=hid (cX.out.ext (bj.out.trans ab));have dJ:w.heap.size<=w3.heap.size:=dc.out.size;clear ab;go_wp2_with fail;go_ret2;exact⟨_,_,rfl,dc.out,.inl ⟨co.out,rfl,rfl⟩⟩
   ·cases hpb:p
    ·rw[hpb]at hp cC;clear hpb;have co:=hid (aD.out (EH hp.symm));rw[aS]at aT;clear aS hp aD;go_wp2_with fail;refine(aT.out _).mono ?_
     rintro e w2 ⟨rfl,rfl⟩;go_wp2_with fail;refine(cC.out _).mono ?_
     rintro e w3 ⟨rfl,ab⟩;have dc:=hid (HX.out.trans (bj.out.trans ab));have a8:=hid (dG.out.ext ab);have q0:=a8.out.five;have ej:=hid (dC.out.ext (bj.out.trans ab));have im:=hid (cX.out.ext (bj.out.trans ab));have dJ:w.heap.size<=w3.heap.size:=dc.out.size;clear ab;go_wp2_with fail;go_ret2;exact⟨_,_,rfl,dc.out,.inl ⟨co.out,rfl,rfl⟩⟩
    ·rw[hpb]at hp cC;clear hpb;have p7:IntKind.i64.wrap ((i:Int)-1)=(i:Int)-1:=IntWalk.i64_in _ (by omega);by_cases hz:nb=(i:Int)-1
     ·by_cases hz0':nb<0
      ·have eS:(nb != (i:Int)-1)=false:=by rw[hz];simp
       have ul:decide (nb<0)=true:=decide_eq_true hz0';have co:=hid (aD.out (Hz aS (.inr hz0')));rw[aS]at aT;clear aS hp aD hz;go_wp2_with fail;refine(aT.out _).mono ?_
       rintro e w2 ⟨rfl,rfl⟩;go_wp2_with fail;refine(cC.out _).mono ?_
       rintro e w3 ⟨rfl,ab⟩;have dc:=hid (HX.out.trans (bj.out.trans ab));have a8:=hid (dG.out.ext ab);have q0:=a8.out.five;have ej:=hid (dC.out.ext (bj.out.trans ab));have im:=hid (cX.out.ext (bj.out.trans ab));have dJ:w.heap.size<=w3.heap.size:=dc.out.size;clear ab;go_wp2_with fail;go_ret2;exact⟨_,_,rfl,dc.out,.inl ⟨co.out,rfl,rfl⟩⟩
      ·have gS:0<=nb:=by omega
       have eS:(nb != (i:Int)-1)=false:=by rw[hz];simp
       have ul:decide (nb<0)=false:=decide_eq_false hz0';have jZ:0<i:=by omega
       obtain⟨g4,d4,fU,zO,zg⟩:=dC.out.form jZ;injection fU with fU _ he5
       subst fU;subst he5;obtain⟨g5,d5,fU,so,rK⟩:=cX.out.form jZ;injection fU with fU _ he5
       subst fU;subst he5;have m7:nb.toNat<i:=by omega
       have wM:Hid (∀W,BA w.heap.size W (.slice (some ⟨g4,0,none⟩) i c4) i S->W.cell? ⟨g4,nb.toNat,none⟩=some (.int .i64 ((S.getD nb.toNat 0:Nat):Int))):=hid (fun W h=>h.get _ m7);have wL:Hid (∀W,BA w.heap.size W (.slice (some ⟨g5,0,none⟩) i c5) i D->W.cell? ⟨g5,nb.toNat,none⟩=some (.int .i64 ((D.getD nb.toNat 0:Nat):Int))):=hid (fun W h=>h.get _ m7);have hsb:=VW.out nb.toNat m7;have t4:=WA.out nb.toNat m7;have m9:nb<(i:Int):=by omega
       have jw:Hid (∀q:na=(i:Int)-((S.getD nb.toNat 0+1:Nat):Int),0<=na->Ba S D ⟨kd,na,nb,nn,nt⟩=some (S.getD nb.toNat 0+1+S.getD na.toNat 0,max (D.getD nb.toNat 0+1) (D.getD na.toNat 0+1))):=hid (fun q h=>QW aS hp.symm (by rw[mn.out];exact hz) gS (by rw[mn.out];exact q) h);have lk:Hid (na≠(i:Int)-((S.getD nb.toNat 0+1:Nat):Int)\/na<0->Ef l=none):=hid (fun h=>aD.out (KX aS (by rw[mn.out];exact h)));have mb:∀q:na=(i:Int)-((S.getD nb.toNat 0+1:Nat):Int),0<=na->na.toNat<i:=fun q h=>by omega
       generalize S.getD nb.toNat 0=sv at *;generalize D.getD nb.toNat 0=dv at *;have aZ:IntKind.i64.wrap (1+(sv:Int))=((sv+1:Nat):Int):=by rw[IntWalk.i64_in _ (by omega)];omega
       have cx:IntKind.i64.wrap ((dv:Int)+1)=((dv+1:Nat):Int):=by rw[IntWalk.i64_in _ (by omega)];omega
       have dT:max (1:Int) ((dv+1:Nat):Int)=((dv+1:Nat):Int):=by omega
       obtain⟨s1,hs1⟩:∃s1,s1=sv+1:=⟨_,rfl⟩;obtain⟨d1,ee⟩:∃d1,d1=dv+1:=⟨_,rfl⟩;rw[<-hs1]at aZ jw lk mb;rw[<-ee]at cx dT jw;have yE:s1<=1000001:=by omega
       have zF:d1<=1000001:=by omega
       have fA:IntKind.i64.wrap ((i:Int)-(s1:Int))=(i:Int)-(s1:Int):=IntWalk.i64_in _ (by omega);rw[aS]at aT;clear aS hp hz hs1 ee hsb t4 aD;by_cases hy:na=(i:Int)-(s1:Int)
       ·by_cases hy0:na<0
        ·have W5:(na != (i:Int)-(s1:Int))=false:=by rw[hy];simp
         have Zp:decide (na<0)=true:=decide_eq_true hy0;have co:=hid (lk.out (.inr hy0));clear mb hy lk jw;go_wp2_with fail;refine(aT.out _).mono ?_
         rintro e w2 ⟨rfl,rfl⟩;go_wp2_with fail;refine(cC.out _).mono ?_
         rintro e w3 ⟨rfl,ab⟩;have dc:=hid (HX.out.trans (bj.out.trans ab));have a8:=hid (dG.out.ext ab);have q0:=a8.out.five;have ej:=hid (dC.out.ext (bj.out.trans ab));have im:=hid (cX.out.ext (bj.out.trans ab));have dJ:w.heap.size<=w3.heap.size:=dc.out.size;clear ab;have ex:=wM.out w3 ej.out;have cT:=wL.out w3 im.out;go_upto_region 15 with fail;go_region
         all_goals
          obtain⟨w8,eD⟩:∃w8,w8=w3.drew:=⟨_,rfl⟩;rw[<-eD];have dO:Hid (Ext w3 w8):=hid (by rw[eD];exact(Ext.refl w3).drew);have il:=hid (dc.out.trans dO.out);have km:=hid (a8.out.ext dO.out);have q0:=km.out.five;have lq:=hid (ej.out.ext dO.out);have mz:=hid (im.out.ext dO.out);have nJ:w.heap.size<=w8.heap.size:=il.out.size;clear eD;go_wp2_with fail;go_ret2;exact⟨_,_,rfl,il.out,.inl ⟨co.out,rfl,rfl⟩⟩
        ·have p5:0<=na:=by omega
         have W5:(na != (i:Int)-(s1:Int))=false:=by rw[hy];simp
         have Zp:decide (na<0)=false:=decide_eq_false hy0;have oU:=mb hy p5;have gO:=hid (jw.out hy p5);have HH4:Hid (∀W,BA w.heap.size W (.slice (some ⟨g4,0,none⟩) i c4) i S->W.cell? ⟨g4,na.toNat,none⟩=some (.int .i64 ((S.getD na.toNat 0:Nat):Int))):=hid (fun W h=>h.get _ oU);have HH5:Hid (∀W,BA w.heap.size W (.slice (some ⟨g5,0,none⟩) i c5) i D->W.cell? ⟨g5,na.toNat,none⟩=some (.int .i64 ((D.getD na.toNat 0:Nat):Int))):=hid (fun W h=>h.get _ oU);have hsb:=VW.out na.toNat oU;have t4:=WA.out na.toNat oU;have Zq:na<(i:Int):=by omega
         generalize S.getD na.toNat 0=sa at *;generalize D.getD na.toNat 0=da at *;have hw4:IntKind.i64.wrap ((s1:Int)+(sa:Int))=((s1+sa:Nat):Int):=by rw[IntWalk.i64_in _ (by omega)];omega
         have eE:IntKind.i64.wrap ((da:Int)+1)=((da+1:Nat):Int):=by rw[IntWalk.i64_in _ (by omega)];omega
         have Xn:max (d1:Int) ((da+1:Nat):Int)=((max d1 (da+1):Nat):Int):=by omega
         obtain⟨s2,iI⟩:∃s2,s2=s1+sa:=⟨_,rfl⟩;obtain⟨d2,eN⟩:∃d2,d2=da+1:=⟨_,rfl⟩;rw[<-iI]at hw4 gO;rw[<-eN]at eE Xn gO;obtain⟨d3,zE⟩:∃d3,d3=max d1 d2:=⟨_,rfl⟩;rw[<-zE]at Xn gO;clear mb hy lk jw oU iI eN zE hsb t4;go_wp2_with fail;refine(aT.out _).mono ?_
         rintro e w2 ⟨rfl,rfl⟩;go_wp2_with fail;refine(cC.out _).mono ?_
         rintro e w3 ⟨rfl,ab⟩;have dc:=hid (HX.out.trans (bj.out.trans ab));have a8:=hid (dG.out.ext ab);have q0:=a8.out.five;have ej:=hid (dC.out.ext (bj.out.trans ab));have im:=hid (cX.out.ext (bj.out.trans ab));have dJ:w.heap.size<=w3.heap.size:=dc.out.size;clear ab;have ex:=wM.out w3 ej.out;have cT:=wL.out w3 im.out;go_upto_region 15 with fail;go_region
         all_goals
          obtain⟨w8,eD⟩:∃w8,w8=w3.drew:=⟨_,rfl⟩;rw[<-eD];have dO:Hid (Ext w3 w8):=hid (by rw[eD];exact(Ext.refl w3).drew);have il:=hid (dc.out.trans dO.out);have km:=hid (a8.out.ext dO.out);have q0:=km.out.five;have lq:=hid (ej.out.ext dO.out);have mz:=hid (im.out.ext dO.out);have nJ:w.heap.size<=w8.heap.size:=il.out.size;clear eD;have iA:=HH4.out w8 lq.out;have mJ:=HH5.out w8 mz.out;go_upto_region 19 with fail;go_region
          all_goals
           obtain⟨w9,yu⟩:∃w9,w9=w8.drew:=⟨_,rfl⟩;rw[<-yu];have pT:Hid (Ext w8 w9):=hid (by rw[yu];exact(Ext.refl w8).drew);have vW:=hid (il.out.trans pT.out);have WF:=hid (km.out.ext pT.out);have q0:=WF.out.five;have wN:=hid (lq.out.ext pT.out);have Ws:=hid (mz.out.ext pT.out);have vk:w.heap.size<=w9.heap.size:=vW.out.size;clear yu;have dd:=hid (gO.out);have dE:Hid (i+1<=maxLen):=hid (by unfold maxLen;omega);have dD:Hid ((i+1)*8<=140737488355328):=hid (by omega);have fj:Hid ((w9.alloc (.cells #[.int .i64 ((s2:Nat):Int)] 3)).ownsRow w.heap.size 3 1 (.slice (some ⟨g4,0,none⟩) i c4) i (S.map din)):=hid (Aj wN.out (fun k _ hk=>Below.heap_alloc _ _ k hk));have fF:=hid (C3 w9 3 [.int .i64 ((s2:Nat):Int)]);have ew:Hid (w.heap.size<=(w9.alloc (.cells #[.int .i64 ((s2:Nat):Int)] 3)).heap.size):=hid (by simp;omega);go_wp2_with (at_builtin;first|(refine wpList_append_lies _ rfl _ _ 41 rfl w.heap.size 3 i0 _ 1 8 Tryz.underlying41 hi aE hz1 ba rfl (by decide) (.slice (some ⟨g4,0,none⟩) i c4) i (S.map din) rfl fj.out ⟨w9.heap.size,0,none⟩ 1 1 [.int .i64 ((s2:Nat):Int)] rfl rfl fF.out (by simp[Value.oneCell']) (by decide) dE.out dD.out ew.out _ rfl ?_;intro g6 c6 w6 bh cw cG gr;have cR:=hid (Ev (u':= .slice (some ⟨g6,0,none⟩) (i+1) c6) wN.out Ws.out (HI.out.apart) vk cw cG rfl rfl);have gD:Hid (BA w.heap.size w6 (.slice (some ⟨g6,0,none⟩) (i+1) c6) (i+1) (S++[s2])):=hid (by unfold BA;rw[List.map_append];exact bh);have iU:w.heap.size<=w6.heap.size:=Nat.le_trans vk cR.out.2.2.size;clear bh cw cG;have ow:Hid ((w6.alloc (.cells #[.int .i64 ((d3:Nat):Int)] 3)).ownsRow w.heap.size 3 1 (.slice (some ⟨g5,0,none⟩) i c5) i (D.map din)):=hid (Aj cR.out.1 (fun k _ hk=>Below.heap_alloc _ _ k hk));have fN:=hid (C3 w6 3 [.int .i64 ((d3:Nat):Int)]);have oQ:Hid (w.heap.size<=(w6.alloc (.cells #[.int .i64 ((d3:Nat):Int)] 3)).heap.size):=hid (by simp;omega))|(refine wpList_append_lies _ rfl _ _ 41 rfl w.heap.size 3 i0 _ 1 8 Tryz.underlying41 hi aE hz1 ba rfl (by decide) (.slice (some ⟨g5,0,none⟩) i c5) i (D.map din) rfl ow.out ⟨w6.heap.size,0,none⟩ 1 1 [.int .i64 ((d3:Nat):Int)] rfl rfl fN.out (by simp[Value.oneCell']) (by decide) dE.out dD.out oQ.out _ rfl ?_;intro g7 c7 w7 cA db dA mf;have d7:=hid (Ev (u':= .slice (some ⟨g7,0,none⟩) (i+1) c7) cR.out.1 gD.out (cR.out.2.1.symm) iU db dA rfl rfl);have tl:Hid (BA w.heap.size w7 (.slice (some ⟨g7,0,none⟩) (i+1) c7) (i+1) (D++[d3])):=hid (by unfold BA;rw[List.map_append];exact cA);clear cA db dA));go_wp2_with fail;go_roundw
           case rel=>exact⟨i+1,_,_,by omega,by go_num,HI.out.next dw.out dd.out d7.out.1 tl.out d7.out.2.1.symm (vW.out.more (cR.out.2.2.trans d7.out.2.2))⟩
           case measure=>simp[intOf];omega
       ·have W5:(na != (i:Int)-(s1:Int))=true:=by rw[bne_iff_ne];exact hy
        have co:=hid (lk.out (.inl hy));clear mb hy lk jw;go_wp2_with fail;refine(aT.out _).mono ?_
        rintro e w2 ⟨rfl,rfl⟩;go_wp2_with fail;refine(cC.out _).mono ?_
        rintro e w3 ⟨rfl,ab⟩;have dc:=hid (HX.out.trans (bj.out.trans ab));have a8:=hid (dG.out.ext ab);have q0:=a8.out.five;have ej:=hid (dC.out.ext (bj.out.trans ab));have im:=hid (cX.out.ext (bj.out.trans ab));have dJ:w.heap.size<=w3.heap.size:=dc.out.size;clear ab;have ex:=wM.out w3 ej.out;have cT:=wL.out w3 im.out;go_upto_region 15 with fail;go_region
        all_goals
         obtain⟨w8,eD⟩:∃w8,w8=w3.drew:=⟨_,rfl⟩;rw[<-eD];have dO:Hid (Ext w3 w8):=hid (by rw[eD];exact(Ext.refl w3).drew);have il:=hid (dc.out.trans dO.out);have km:=hid (a8.out.ext dO.out);have q0:=km.out.five;have lq:=hid (ej.out.ext dO.out);have mz:=hid (im.out.ext dO.out);have nJ:w.heap.size<=w8.heap.size:=il.out.size;clear eD;go_wp2_with fail;go_ret2;exact⟨_,_,rfl,il.out,.inl ⟨co.out,rfl,rfl⟩⟩
     ·have eS:(nb != (i:Int)-1)=true:=by rw[bne_iff_ne];exact hz
      have co:=hid (aD.out (Hz aS (.inl (by rw[mn.out];exact hz))));rw[aS]at aT;clear aS hp aD hz;go_wp2_with fail;refine(aT.out _).mono ?_
      rintro e w2 ⟨rfl,rfl⟩;go_wp2_with fail;refine(cC.out _).mono ?_
      rintro e w3 ⟨rfl,ab⟩;have dc:=hid (HX.out.trans (bj.out.trans ab));have a8:=hid (dG.out.ext ab);have q0:=a8.out.five;have ej:=hid (dC.out.ext (bj.out.trans ab));have im:=hid (cX.out.ext (bj.out.trans ab));have dJ:w.heap.size<=w3.heap.size:=dc.out.size;clear ab;go_wp2_with fail;go_ret2;exact⟨_,_,rfl,dc.out,.inl ⟨co.out,rfl,rfl⟩⟩
  ·obtain rfl:i=n:=by omega
   have o6:=HI.out.go;rw[List.drop_eq_nil_of_le (by rw[<-HN.out];exact Nat.le_refl _)]at o6;have fy:Hid (Ef l=if l.length=0\/S.getD (l.length-1) 0≠l.length then none else some (S,D)):=hid (by unfold Ef;rw[o6];rfl);rw[<-HN.out]at fy;have HX:=hid a5.ext;have dC:=hid a5.r4;have cX:=hid a5.r5;have oq:=hid a5.ok.size;clear a5 o6;by_cases hz:i=0
   ·subst hz;have co:Hid (Ef l=none):=hid (by rw[fy.out,if_pos (.inl rfl)]);go_wp2_with fail;go_ret2;exact⟨_,_,rfl,HX.out,.inl ⟨co.out,rfl,rfl⟩⟩
   ·obtain⟨g4,d4,fU,_,_⟩:=dC.out.form (by omega);injection fU with fU _ he5
    subst fU;clear he5;obtain⟨y,hy⟩:∃y:Int,y=(i:Int)-1:=⟨_,rfl⟩;have aa:=dC.out.get (i-1) (by omega);have hj:y.toNat=i-1:=by omega
    have oT:((i:Int) == 0)=false:=by rw[beq_eq_false_iff_ne];omega
    have p7:IntKind.i64.wrap ((i:Int)-1)=y:=by rw[IntWalk.i64_in _ (by omega),hy]
    have mK:(0:Int)<=y:=by omega
    have iB:y<(i:Int):=by omega
    rw[<-hj]at aa fy;have wt:=hid (And.intro dC.out.len cX.out.len);have mI:=oq.out (i-1) (by have:=dC.out.len;omega);rw[<-hj]at mI;generalize S.getD y.toNat 0=sv at *;clear hj oq hy mI;by_cases he:sv=i
    ·have iP:Hid (Ef l=some (S,D)):=hid (by rw[fy.out,if_neg (by omega)]);subst he;have hne:((sv:Int) != (sv:Int))=false:=by simp
     clear fy hz;go_wp2_with fail;go_ret2;exact⟨_,_,rfl,HX.out,.inr ⟨S,D,iP.out,by rw[<-HN.out];exact wt.out.1,by rw[<-HN.out];exact wt.out.2,dC.out.arr,cX.out.arr⟩⟩
    ·have co:Hid (Ef l=none):=hid (by rw[fy.out,if_pos (.inr he)]);have hne:((sv:Int) != (i:Int))=true:=by rw[bne_iff_ne];omega
     clear fy hz he;go_wp2_with fail;go_ret2;exact⟨_,_,rfl,HX.out,.inl ⟨co.out,rfl,rfl⟩⟩
theorem Kb(w:World)(v:Value)(l:List Nd)(hr:RNd w v l)(hl:l.length<=1000000)(nh:∀x∈l,x.text.length<=1073741824):Calls Tryz.prog 67 #[v] w fun e w'=>e= .returned (.bool (FZ l))/\Ext w w':=by
 have HS:=hid (Pd w v l hr hl nh);have HV:Hid (FZ l=(decide (1<=l.length/\l.length<=200) && match Ef l with|none=>false|some (_,D)=>decide (D.getD (l.length-1) 0<=40))):=hid rfl;obtain⟨A,c,rfl,_⟩:=hr;generalize FZ l=r at *;clear nh;obtain⟨n,hn⟩:∃n,n=l.length:=⟨_,rfl⟩;have HN:=hid hn;rw[<-hn]at hl HV HS ⊢;clear hn;by_cases h1:n<1
 ·obtain rfl:n=0:=by omega
  clear HS h1;go_enter Tryz.func67,Tryz.ntmps67;go_wp2_with fail;go_ret;exact⟨by rw[HV.out];rfl,Ext.refl w⟩
 ·have XV:decide ((n:Int)<1)=false:=decide_eq_false (by omega);have Vn:¬((n:Int)<1):=by omega
  by_cases h2:200<n
  ·have h2b:decide ((n:Int)>200)=true:=decide_eq_true (by omega);have Vl:(200:Int)<(n:Int):=by omega
   have hd:decide (1<=n/\n<=200)=false:=decide_eq_false (by omega);rw[hd]at HV;clear HS h1 h2 hd;go_enter Tryz.func67,Tryz.ntmps67;go_wp2_with fail;go_ret;exact⟨by rw[HV.out];rfl,Ext.refl w⟩
  ·have h2b:decide ((n:Int)>200)=false:=decide_eq_false (by omega);have Vl:¬(200:Int)<(n:Int):=by omega
   have hd:decide (1<=n/\n<=200)=true:=decide_eq_true (by omega);rw[hd,Bool.true_and]at HV;have h1n:1<=n:=by omega
   clear h1 h2 hd;go_enter Tryz.func67,Tryz.ntmps67;go_wp2_with fail;refine HS.out.mono ?_
   rintro e w1 ⟨v1,v2,rfl,hx,hp⟩;have HX:=hid hx;clear hx;rcases hp with ⟨hs,rfl,rfl⟩|⟨S,D,hs,jU,kV,h4,h5⟩
   ·rw[hs]at HV;clear hs;go_wp2_with fail;go_ret;exact⟨by rw[HV.out];rfl,HX.out⟩
   ·rw[hs]at HV;have qD:Hid (r=decide (D.getD (n-1) 0<=40)):=hid HV.out;clear HV;obtain⟨A4,c4,rfl,_⟩:=h4.open;obtain⟨A5,c5,rfl,h6⟩:=h5.open;rw[<-HN.out]at jU kV;rw[kV]at h6;obtain⟨g5,o5,rfl,_,h7⟩:=h6 (by omega);have h8:=h7 (n-1) (by omega);obtain⟨y,hy⟩:∃y:Int,y=(n:Int)-1:=⟨_,rfl⟩;have hj:y.toNat=n-1:=by omega
    rw[<-hj]at h8 qD;have hw:IntKind.i64.wrap ((n:Int)-1)=y:=by rw[IntWalk.i64_in _ (by omega),hy]
    have mK:(0:Int)<=y:=by omega
    have iB:y<(n:Int):=by omega
    generalize D.getD y.toNat 0=dv at *;have ck:(0:Int)<(n:Int):=by omega
    have hdv:decide (dv<=40)=decide ((dv:Int)<=40):=by rw[decide_eq_decide];omega
    have pf:=hid hdv;rw[jU,kV];clear hs h4 h5 h6 h7 hj hy hdv jU kV;go_wp2_with fail;go_ret;exact⟨by rw[qD.out,pf.out];rfl,HX.out⟩
theorem Ho(e:Ex)(hg:e.Good):∀off,∀x∈Ak off e,x.text.length<=1073741824:=by
 induction e with
 |leaf k t=>
  intro off x hx;rw[Ak,List.mem_singleton]at hx;subst hx;rcases hg with ⟨_,_,h⟩|⟨_,h⟩|⟨_,rfl⟩
  ·simp only;omega
  ·have:=Gj (Bool.and_eq_true_iff.1 h).1;simp only;omega
  ·simp
 |un k n x ih=>
  intro off y hy;rw[Ak,List.mem_append,List.mem_singleton]at hy;rcases hy with hy|rfl
  ·exact ih hg.2.2.2.2 off y hy
  ·simp
 |bin k x z ihx ihy=>
  intro off y hy;rw[Ak,List.mem_append,List.mem_append,List.mem_singleton]at hy;rcases hy with hy|hy|rfl
  ·exact ihx hg.2.1 _ y hy
  ·exact ihy hg.2.2 _ y hy
  ·simp
theorem Gg.whole(e:Ex):Gg (Ak 0 e) (e.size-1) e:=⟨[],[],by simp,by have:=e.size_pos;simp;omega⟩
def Ce(w:World):Prop:=∃m:Int,w.cell? ⟨0,0,none⟩=some (.int .i64 m)
theorem Ce.ext{w w':World}(h:Ce w)(hx:Ext w w'):Ce w':=by
 obtain⟨m,h⟩:=h;exact⟨m,hx.keep h⟩
theorem Jt{w:World}(h:w.ShapedOpen Tryz.prog):Ce w:=Tryz.laysM145.s1_3 w h
theorem TJ(w:World)(l:List UInt8)(hl:l.length<=1073741824)(hm:Ce w):
  Calls Tryz.prog 207 #[str l,.string ⟨#[46]⟩] w fun e w'=>e= .returned (.tuple #[str (whole l),str (AY l),.bool (AC l)])/\Ext w w':=by
 obtain⟨m,hm⟩:=hm;have h:=Any.strings_Cut { Tryz.laysM145 with } ⟨l.toArray⟩ ⟨#[46]⟩ m w (by rw[Co];omega) hm;have e:=TI l;have e1:Lib.cut (⟨l.toArray⟩:ByteArray).data.toList (⟨#[46]⟩:ByteArray).data.toList=(whole l,AY l,AC l):=e;rw[e1]at h;refine h.mono ?_
 rintro e w' ⟨rfl,n,rfl⟩;exact⟨rfl,(Ext.refl w).drewN n⟩
theorem OW(w:World)(l:List UInt8):
  Calls Tryz.prog 208 #[str l,.string ⟨#[48]⟩] w fun e w'=>e= .returned (str (l.dropWhile (· == 48)))/\w=w':=by
 refine(Tryz.strings_TrimLeft_one ⟨l.toArray⟩ 48 (by decide) w).mono ?_
 rintro e w' ⟨rfl,rfl⟩;exact⟨rfl,rfl⟩
theorem OY(w:World)(l:List UInt8)(hl:l.length<=1073741824)(h:l.all Bu=true):
  Calls Tryz.prog 210 #[str l,.string ⟨#[48,49,50,51,52,53,54,55,56,57]⟩] w fun e w'=>e= .returned (str [])/\Ext w w':=by
 refine(Any.strings_Trim_laid Tryz.lays160 (by kernel_rfl) ⟨l.toArray⟩ ⟨#[48,49,50,51,52,53,54,55,56,57]⟩ w (by rw[Co];omega) (by decide) (ascii_of_all (by decide))).mono ?_
 rintro e w' ⟨rfl,hb⟩;have e1:Lib.trimS (⟨l.toArray⟩:ByteArray).data.toList (⟨#[48,49,50,51,52,53,54,55,56,57]⟩:ByteArray).data.toList=[]:=OX l h;rw[e1];exact⟨rfl,hb⟩
def IR(w0 wr:World)(xs:List Nat)(m c k cy:Nat):Prop:=
 ∃ys:List Nat,ys.length=k/\Ok ys/\val ys+4294967296 ^ k*cy=val (xs.take k)*m+c/\
  Blk wr w0.heap.size 183 (cells (ys++List.replicate (xs.length+1-k) 0))/\Ext w0 wr
theorem IR.step {w0 wr:World} {xs ys:List Nat} {m c k q x:Nat} (hk:k<xs.length) (hl:ys.length=k) (az:Ok ys)
  (hv:val (ys++[(q+x*m) % 4294967296])+4294967296 ^ (k+1)*((q+x*m) / 4294967296)=val (xs.take (k+1))*m+c)
  (hb:Blk wr w0.heap.size 183 (cells (ys++List.replicate (xs.length+1-k) 0))) (he:Ext w0 wr):
  IR w0 (wr.setCell ⟨w0.heap.size,k,none⟩ (d32 ((q+x*m) % 4294967296))) xs m c (k+1) ((q+x*m) / 4294967296):=by
 refine⟨ys++[(q+x*m) % 4294967296],by simp[hl],az.snoc (Nat.mod_lt _ (by omega)),hv,?_,he.setCell (Nat.le_refl _) _⟩;have h1:=hb.set_ k (d32 ((q+x*m) % 4294967296));rw[Bx,show xs.length+1-k=(xs.length-k)+1 by omega]at h1;have h2:=Dg ys (xs.length-k) ((q+x*m) % 4294967296);rw[hl]at h2;rw[h2]at h1;rw[show xs.length+1-(k+1)=xs.length-k by omega];exact h1
theorem EN(w:World)(v:Value)(xs:List Nat)(m c:Nat)(h:Arr w v xs)(hn:xs.length<=536870912)(hm:m<4294967296)(hc:c<4294967296):
  Calls Tryz.prog 246 #[v,.int .u32 (m:Int),.int .u32 (c:Int)] w fun e w'=>∃v',e= .returned v'/\Own w.heap.size w' v' (Ac (val xs*m+c))/\Ext w w':=by
 have HA:=hid h;obtain⟨az,A,cap,rfl,dp,dT,aa⟩:=h.open;have HM:=hid dT;have HC:=hid aa;have df:=CV xs.length (by omega);have jK:=hid df;clear h aa dT dp;go_enter Tryz.func246,Tryz.ntmps246;go_wp2_with fail;clear df;go_loopw [8,19] (fun cy i wr=>∃k q:Nat,k<=xs.length/\q<4294967296/\i= .int .i64 k/\cy= .int .u64 q/\IR w wr xs m c k q) (fun _ i _=>xs.length-(intOf i).toNat)
 case atStart=>exact⟨0,c,Nat.zero_le _,hc,rfl,rfl,[],rfl,Cj,by simp[val],Blk.new _ _ _,(Ext.refl w).alloc _⟩
 case round=>
  obtain⟨k,q,hk,hq,rfl,rfl,ys,hl,bM,hv,ay,ah⟩:=hrel;have HV:=hid hv;clear hv;have HB:=hid ay;clear ay;have HL:=hid hl;clear hl;by_cases hlt:k<xs.length
  ·obtain⟨b,o,rfl,hb,aa⟩:=HC.out (by omega);have hx:=(ah.cell hb).trans (aa k hlt);have hst:=HB.out.cell k;have iD:=HB.out.frozen k;rw[Be _ _ (by simp[HL.out];omega)]at hst;clear aa;have cK:=az.get k;have HS:=hid (IY xs ys k m c q hlt HL.out HV.out);have hp:=II cK hm;obtain⟨x,bN⟩:∃x,xs.getD k 0=x:=⟨_,rfl⟩;rw[bN]at hx cK hp HS;clear bN;have uG:(x:Int)*(m:Int)<=18446744065119617025:=by rw[<-Int.natCast_mul];omega
   have hp0:0<=(x:Int)*(m:Int):=by rw[<-Int.natCast_mul];omega
   simp only[d32]at hx hst
   go_wp2
   go_round
   case rel=>
    refine⟨k+1,(q+x*m) / 4294967296,by omega,?_,by go_num,by go_num,?_⟩
    ·exact Nat.div_lt_of_lt_mul (by omega)
    ·exact IR.step hlt HL.out bM HS.out HB.out ah
   case measure=>simp[intOf];omega
  ·obtain rfl:k=xs.length:=by omega
   have hst:=HB.out.cell xs.length;have iD:=HB.out.frozen xs.length;rw[Be _ _ (by simp[HL.out])]at hst;have aA:Own w.heap.size (wr.setCell ⟨w.heap.size,xs.length,none⟩ (d32 q)) (.slice (some ⟨w.heap.size,0,none⟩) (xs.length+1) (xs.length+1)) (ys++[q]):=by
    have h1:=HB.out.set_ xs.length (d32 q);have h2:=Dg ys 0 q;rw[HL.out]at h2;rw[Bx,show xs.length+1-xs.length=0+1 by omega,h2]at h1;have h3:=Own.block (B:=w.heap.size) (bM.snoc hq) (by simpa using h1) (Nat.le_refl _) (by simp[HL.out];omega)
    simpa [HL.out] using h3
   have bd:val (ys++[q])=val xs*m+c:=by
    rw[BK,HL.out,HV.out,List.take_of_length_le (Nat.le_refl _)]
   have HT:=hid (Bq _ _ _ aA.arr (by simp[HL.out];omega));rw[bd]at HT;have fZ:=hid bd;have HO:=hid aA;clear bd aA;simp only[d32]at hst;go_wp2_with fail;refine HT.out.mono ?_
   rintro e w' ⟨v',rfl,ho,hx⟩;go_wp2_with fail;go_ret;have he:Ext w (wr.setCell ⟨w.heap.size,xs.length,none⟩ (d32 q)):=ah.setCell (Nat.le_refl _) _;exact⟨_,rfl,ho.mono he.size,he.trans hx⟩
end Big
end Go.Proofs.YtkoaogkknnelaaaGreatDoor
