import Derived.Test.YtkoaogkknnelaaaGreatDoorM17
import Derived.Deep.AppendLies
import Derived.Lib.MinMax
import Derived.Shelf.Strings.SlTrimAscii
set_option linter.unusedVariables false
set_option linter.unusedSimpArgs false
set_option maxHeartbeats 4000000
set_option maxRecDepth 100000
namespace Go.Proofs.YtkoaogkknnelaaaGreatDoor
namespace Big
open Lib (hid)
open Go.RowKit
theorem Jd:(Tryz.prog.info? 3).map (fun i=>(i.zero,i.size,i.bytes))=some (some (.int .i64 0),1,8):=by kernel_rfl
def din(n:Nat):Value:= .int .i64 (n:Int)
def NZ(B:Nat)(w:World)(v:Value)(l:List Nat):Prop:=BA 3 B w v (l.map din)
def Jw(w:World)(v:Value)(l:List Nat):Prop:=Ch w v (l.map din)
section
variable {w w':World} {v:Value} {l:List Nat} {B B':Nat}
theorem NZ.nil(B:Nat)(w:World):NZ B w (.slice none 0 0) []:=BA.none_ _ B w
theorem NZ.ext(h:NZ B w v l)(hb:Ext w w'):NZ B w' v l:=BA.ext h hb
theorem NZ.arr(h:NZ B w v l):Jw w v l:=BA.arr h
theorem Jw.ext(h:Jw w v l)(hb:Ext w w'):Jw w' v l:=Ch.ext h hb
theorem Hx{j:Nat}(hj:j<l.length):(l.map din)[j]? =some (din l[j]):=by
 rw[List.getElem?_map,List.getElem?_eq_getElem hj];rfl
theorem Jw.open(h:Jw w v l):∃A c,v= .slice A l.length c/\
  (0<l.length->∃b o,A=some ⟨b,o,none⟩/\b<w.heap.size/\∀j (_hj:j<l.length),w.cell? ⟨b,o+j,none⟩=some (.int .i64 ((l.getD j 0:Nat):Int))):=by
 obtain⟨A,c,rfl,h2,h3,h4⟩:=h;rw[List.length_map]at h2 h4;refine⟨A,c,by rw[List.length_map],fun hp=> ?_⟩;obtain⟨b,o,rfl,hlt,hc⟩:=h4 hp;exact⟨b,o,rfl,hlt,fun j hj=>by
  rw[hc j _ (Hx hj),List.getD_eq_getElem?_getD,List.getElem?_eq_getElem hj];rfl⟩
end
theorem Jw.fresh1(w:World)(n:Nat):Jw (w.alloc (.cells #[.int .i64 (n:Int)] 3)) (.slice (some ⟨w.heap.size,0,none⟩) 1 1) [n]:=Ch.one (by simp[din])
def Br(B:Nat)(w:World)(v:Value)(n:Nat)(S:List Nat):Prop:=w.ownsRow B 3 1 v n (S.map din)
def D7(v u:Value):Prop:=∀g,v.ownBlock=some g->u.ownBlock≠some g
theorem Br.len{B n:Nat}{w:World}{v:Value}{S:List Nat}(h:Br B w v n S):S.length=n:=by
 have:=h.1;rw[List.length_map,Nat.mul_one]at this;exact this
theorem Br.get{B n g c:Nat}{w:World}{S:List Nat}(h:Br B w (.slice (some ⟨g,0,none⟩) n c) n S)(j:Nat)(hj:j<n):w.cell? ⟨g,j,none⟩=some (.int .i64 ((S.getD j 0:Nat):Int)):=by
 have h1:=h.cellAt j (by omega);have h2:=h.len;rw[h1,List.getElem?_map,List.getD_eq_getElem?_getD,List.getElem?_eq_getElem (by omega)];rfl
theorem Br.ext{B n:Nat}{w w':World}{v:Value}{S:List Nat}(h:Br B w v n S)(hx:Ext w w'):Br B w' v n S:=Af h (fun _ _ hg=>Below.block hx _ hg)
theorem Br.arr{B n:Nat}{w:World}{v:Value}{S:List Nat}(h:Br B w v n S):Jw w v S:=by
 have hl:=h.len;rcases h.2 with ⟨rfl,h2⟩|⟨g,cap,cur,rfl,hb,hg,hc,hm,hs,ht⟩
 ·have:S=[]:=List.eq_nil_of_length_eq_zero (by omega);subst this;exact Ch.none_ w
 ·refine⟨_,_,by rw[List.length_map,hl],by rw[List.length_map,hl];exact hc,hm,fun _=>⟨g,0,rfl,?_,fun j u hj=> ?_⟩⟩
  ·rcases Nat.lt_or_ge g w.heap.size with h|h
   ·exact h
   ·rw[Array.getElem?_eq_none h]at hg;cases hg
  ·have ot:j<n:=by
    rcases Nat.lt_or_ge j n with h|h
    ·exact h
    ·rw[List.getElem?_eq_none (by rw[List.length_map];omega)]at hj;cases hj
   rw[Nat.zero_add,h.cellAt j (by omega),hj]
theorem Br.blt{B n:Nat}{w:World}{v:Value}{S:List Nat}(h:Br B w v n S)(g:Nat)(hg:v.ownBlock=some g):B<=g/\g<w.heap.size:=by
 rcases h.2 with ⟨rfl,h2⟩|⟨g',cap,cur,rfl,hb,hh,_⟩
 ·cases hg
 ·simp only[Value.ownBlock,Option.some.injEq]at hg;subst hg;refine⟨hb,?_⟩;rcases Nat.lt_or_ge g' w.heap.size with h|h
  ·exact h
  ·rw[Array.getElem?_eq_none h]at hh;cases hh
theorem Eg {B n m:Nat} {W w':World} {v u:Value} {S D:List Nat} {o:Obj} {g H:Nat} {u':Value} (h4:Br B W v n S) (h5:Br B W u m D) (fc:D7 v u) (hB:B<=W.heap.size)
  (au:(W.alloc o).grownBy w' v.ownBlock) (hat:v.ownBlock=some g\/g=H) (hH:(W.alloc o).heap.size=H) (hu:u'.ownBlock=some g):Br B w' u m D/\D7 u' u/\Below B W w':=by
 have hs:(W.alloc o).heap.size=W.heap.size+1:=by simp
 refine⟨?_,fun k hk he=> ?_,?_⟩
 ·refine(h5.kept (row:=none) (World.grownBy_alloc W o none) (by cases hv:u.ownBlock<;>simp)).kept au ?_
  cases hu5:u.ownBlock with
  |none=>exact .inl rfl
  |some k=>exact .inr (fun he=>fc k he.symm hu5)
 ·rw[hu]at hk;injection hk with hk
  subst hk;rcases hat with hat|hat
  ·exact fc g hat he
  ·have:=(h5.blt g he).2;omega
 ·exact Below.grown ((Below.refl B W).alloc hB o) au (by omega) (fun k hk=>(h4.blt k hk).1)
theorem D7.symm{v u:Value}(h:D7 v u):D7 u v:=fun g h1 h2=>h g h2 h1
def Qq(l:List Nd)(w:World)(e:Ending)(w':World):Prop:=
 ∃v1 v2,e= .returned (.tuple #[v1,v2])/\Ext w w'/\((DX l=none/\v1= .slice none 0 0/\v2= .slice none 0 0)\/∃S D,DX l=some (S,D)/\S.length=l.length/\D.length=l.length/\Jw w' v1 S/\Jw w' v2 D)
structure Jp (l:List Nd) (w:World) (i:Nat) (S D:List Nat) (v u:Value) (wr:World):Prop where
 ok:NW S D
 go:FO [] [] l=FO S D (l.drop i)
 r4:Br w.heap.size wr v i S
 r5:Br w.heap.size wr u i D
 apart:D7 v u
 ext:Ext w wr
theorem DA{l:List Nd}{i:Nat}{nd:Nd}(h:l[i]? =some nd):l.drop i=nd::l.drop (i+1):=by
 obtain⟨hi,he⟩:=List.getElem?_eq_some_iff.1 h;rw[List.drop_eq_getElem_cons hi,he]
theorem Jp.bad{l:List Nd}{w wr:World}{i:Nat}{S D:List Nat}{v u:Value}{nd:Nd}(h:Jp l w i S D v u wr)(hn:l[i]? =some nd)(hs:AT S D nd=none):DX l=none:=by
 have h1:=h.go;rw[DA hn,FO,hs]at h1;unfold DX;rw[h1]
theorem Jp.next {l:List Nd} {w wr w':World} {i s d:Nat} {S D:List Nat} {v u v' u':Value} {nd:Nd} (h:Jp l w i S D v u wr) (hn:l[i]? =some nd) (hs:AT S D nd=some (s,d))
  (h4:Br w.heap.size w' v' (i+1) (S++[s])) (h5:Br w.heap.size w' u' (i+1) (D++[d])) (fc:D7 v' u') (hx:Ext w w'):Jp l w (i+1) (S++[s]) (D++[d]) v' u' w':=by
 have h1:=h.go;rw[DA hn,FO,hs]at h1;exact⟨(h.ok.step hs).2.2,h1,h4,h5,fc,hx⟩
section
variable {S D:List Nat} {k a b n:Int} {t:List UInt8}
theorem MQ(h:Aq k= -1):AT S D ⟨k,a,b,n,t⟩=none:=by
 unfold AT;rw[if_pos (.inl (by simp only[h];decide))]
theorem Ew(h:Ax ⟨k,a,b,n,t⟩=false):AT S D ⟨k,a,b,n,t⟩=none:=by
 unfold AT;rw[if_pos (.inr (.inl h))]
theorem QD(h:Aq k=0)(h2:a≠0):AT S D ⟨k,a,b,n,t⟩=none:=by
 unfold AT;rw[if_pos (.inr (.inr (.inl ⟨by simp only[h];decide,h2⟩)))]
theorem Lq(h:Aq k<2)(h2:b≠0):AT S D ⟨k,a,b,n,t⟩=none:=by
 unfold AT;rw[if_pos (.inr (.inr (.inr ⟨h,h2⟩)))]
theorem QG(h:Aq k=0)(hp:Ax ⟨k,0,0,n,t⟩=true):AT S D ⟨k,0,0,n,t⟩=some (1,1):=by
 unfold AT;rw[hp];simp only[h];simp
theorem QF(h:Aq k=1)(hp:Ax ⟨k,a,0,n,t⟩=true)(ha:a=(S.length:Int)-1)(h0:0<=a):AT S D ⟨k,a,0,n,t⟩=some (S.getD a.toNat 0+1,D.getD a.toNat 0+1):=by
 unfold AT;rw[hp];simp only[h];rw[if_neg (by simp),if_neg (by decide),if_pos trivial,if_neg (by omega),Nat.max_eq_right (by omega)]
theorem Hg(h:Aq k=1)(ha:a≠(S.length:Int)-1\/a<0):AT S D ⟨k,a,b,n,t⟩=none:=by
 unfold AT;simp only[h];split
 ·rfl
 ·simp
theorem Hf(h:Aq k=2)(ha:b≠(S.length:Int)-1\/b<0):AT S D ⟨k,a,b,n,t⟩=none:=by
 unfold AT;simp only[h];split
 ·rfl
 ·simp
theorem Kt(h:Aq k=2)(ha:a≠(S.length:Int)-((S.getD b.toNat 0+1:Nat):Int)\/a<0):AT S D ⟨k,a,b,n,t⟩=none:=by
 unfold AT;simp only[h];split
 ·rfl
 ·simp only[Int.reduceEq,if_false];split
  ·rfl
  ·first|rfl|simp[ha]
theorem QE(h:Aq k=2)(hp:Ax ⟨k,a,b,n,t⟩=true)(hb:b=(S.length:Int)-1)(hb0:0<=b)(ha:a=(S.length:Int)-((S.getD b.toNat 0+1:Nat):Int))(h0:0<=a):
  AT S D ⟨k,a,b,n,t⟩=some (S.getD b.toNat 0+1+S.getD a.toNat 0,max (D.getD b.toNat 0+1) (D.getD a.toNat 0+1)):=by
 unfold AT;rw[hp];simp only[h];rw[if_neg (by simp),if_neg (by decide),if_neg (by decide),if_neg (by omega),if_neg (by omega),Nat.max_eq_right (a:=1) (by omega)]
end
theorem Fb(k:Int):Aq k= -1\/Aq k=0\/Aq k=1\/Aq k=2:=by
 unfold Aq
 repeat' split
 all_goals simp
theorem OY(w:World)(v:Value)(l:List Nd)(hr:RNd w v l)(hl:l.length<=1000000)(l7:∀x∈l,x.text.length<=1073741824):Calls Tryz.prog 131 #[v] w (Qq l w):=by
 have HR:=hid hr;have lL:=hid l7;obtain⟨i0,hi,aE,hz1,bx⟩:=info_parts Jd;obtain⟨A,c,rfl,_⟩:=hr;clear l7;have bZ:Hid (Jp l w 0 [] [] (.slice none 0 0) (.slice none 0 0) w):=hid ⟨NW.nil,rfl,⟨rfl,.inl ⟨rfl,rfl⟩⟩,⟨rfl,.inl ⟨rfl,rfl⟩⟩,(fun g h=>by cases h),Ext.refl w⟩;obtain⟨n,hn⟩:∃n,n=l.length:=⟨_,rfl⟩;have HN:=hid hn;rw[<-hn]at hl ⊢;clear hn;go_enter Tryz.func131,Tryz.ntmps131;go_wp2_with fail;go_loopw [4,5,14] (fun s4 s5 s14 wr=>∃(i:Nat) (S D:List Nat),i<=n/\s14= .int .i64 (i:Int)/\Jp l w i S D s4 s5 wr) (fun _ _ s14 _=>n-(intOf s14).toNat)
 case atStart=>exact⟨0,[],[],Nat.zero_le _,rfl,bZ.out⟩
 case round=>
  obtain⟨i,S,D,hin,rfl,aX⟩:=hrel;have HI:=hid aX;obtain⟨A4,c4,rfl⟩:=Ap aX.r4;obtain⟨A5,c5,rfl⟩:=Ap aX.r5;clear bZ;by_cases hlt:i<n
  ·have i7:i<l.length:=by rw[<-HN.out];exact hlt
   have HIL:=hid i7;obtain⟨A',c',he,hc⟩:=HR.out.ext aX.ext;obtain⟨b,o,yy,hb,hc⟩:=hc (by omega);obtain⟨nd,jN,hat,jt⟩:∃nd,l[i]? =some nd/\N0 wr b (o+i*5) nd/\nd.text.length<=1073741824:=⟨l[i],List.getElem?_eq_getElem i7,hc i i7,lL.out _ (List.getElem_mem i7)⟩
   injection he with he1 he2 he3
   subst he1;clear he2 he3;subst yy;have aA:Hid (AT S D nd=none->DX l=none):=hid (fun h=>aX.bad jN h);have dd:=hid jN;clear jN hc;have hw:wr.heap.size>=w.heap.size:=aX.ext.size;have HX:=hid aX.ext;have kU:=aX.r4.len;have oy:=aX.r5.len;have lk:=hid kU;have HDL:=hid oy;have wX:=aX.ok.size;have xX:=aX.ok.depth;rw[kU]at wX xX;have yZ:=hid wX;have zO:=hid xX;have dg:=hid aX.r4;have cI:=hid aX.r5;clear aX i7 kU oy wX xX;obtain⟨kd,na,nb,nn,nt⟩:=nd;have co:=hid (fun W=>J0 W ⟨kd,na,nb,nn,nt⟩ jt);simp only[ndV]at co;obtain⟨k0,k1,k2,k3,k4⟩:=hat;simp only at k0 k1 k2 k3 k4;obtain⟨s,hs⟩:∃s:ByteArray,s=⟨nt.toArray⟩:=⟨_,rfl⟩;have ac:str nt= .string s:=by rw[hs];rfl
   rw[ac]at co k4;clear hs ac jt;have aO:=hid (fun W=>Bs W kd);have key:=Fb kd;have Xo:∃p,p=Ax ⟨kd,na,nb,nn,nt⟩:=⟨_,rfl⟩;obtain⟨p,hp⟩:=Xo;rw[<-hp]at co;have hb0:=Blk.new wr 95 #[.int .i64 kd,.int .i64 na,.int .i64 nb,.int .i64 nn,.string s];have be:=hid ((Ext.refl wr).alloc (.cells #[.int .i64 kd,.int .i64 na,.int .i64 nb,.int .i64 nn,.string s] 95));have dp:=hid hb0;have q0:=hb0.five;clear hb0;rcases key with aD|aD|aD|aD
   ·have b9:=hid (aA.out (MQ aD));rw[aD]at aO;clear aD hp aA;go_wp2_with fail;refine(aO.out _).mono ?_
    rintro e w2 ⟨rfl,rfl⟩;go_wp2_with fail;go_ret2;exact⟨_,_,rfl,HX.out.trans be.out,.inl ⟨b9.out,rfl,rfl⟩⟩
   ·cases hpb:p
    ·rw[hpb]at hp co;clear hpb;have b9:=hid (aA.out (Ew hp.symm));rw[aD]at aO;clear aD hp aA;go_wp2_with fail;refine(aO.out _).mono ?_
     rintro e w2 ⟨rfl,rfl⟩;go_wp2_with fail;refine(co.out _).mono ?_
     rintro e w3 ⟨rfl,ab⟩;have cQ:=hid (HX.out.trans (be.out.trans ab));have aZ:=hid (dp.out.ext ab);have q0:=aZ.out.five;have dQ:=hid (dg.out.ext (be.out.trans ab));have gG:=hid (cI.out.ext (be.out.trans ab));have dy:w.heap.size<=w3.heap.size:=cQ.out.size;clear ab;go_wp2_with fail;go_ret2;exact⟨_,_,rfl,cQ.out,.inl ⟨b9.out,rfl,rfl⟩⟩
    ·rw[hpb]at hp co;clear hpb;by_cases ha:na=0
     ·subst ha;by_cases hb:nb=0
      ·subst hb;have iL:Hid (AT S D ⟨kd,0,0,nn,nt⟩=some (1,1)):=hid (QG aD hp.symm);rw[aD]at aO;clear aD hp;go_wp2_with fail;refine(aO.out _).mono ?_
       rintro e w2 ⟨rfl,rfl⟩;go_wp2_with fail;refine(co.out _).mono ?_
       rintro e w3 ⟨rfl,ab⟩;have cQ:=hid (HX.out.trans (be.out.trans ab));have aZ:=hid (dp.out.ext ab);have q0:=aZ.out.five;have dQ:=hid (dg.out.ext (be.out.trans ab));have gG:=hid (cI.out.ext (be.out.trans ab));have dy:w.heap.size<=w3.heap.size:=cQ.out.size;clear ab;have cL:=hid (iL.out);have bB:Hid (i+1<=maxLen):=hid (by unfold maxLen;omega);have bA:Hid ((i+1)*8<=140737488355328):=hid (by omega);have eE:Hid ((w3.alloc (.cells #[.int .i64 1] 3)).ownsRow w.heap.size 3 1 (.slice A4 i c4) i (S.map din)):=hid (Af dQ.out (fun k _ hk=>Below.heap_alloc _ _ k hk));have cZ:=hid (BV w3 3 [.int .i64 1]);have cd:Hid (w.heap.size<=(w3.alloc (.cells #[.int .i64 1] 3)).heap.size):=hid (by simp;omega);clear aA;go_wp2_with (at_builtin;first|(refine wpList_append_lies _ rfl _ _ 41 rfl w.heap.size 3 i0 _ 1 8 Tryz.underlying41 hi aE hz1 bx rfl (by decide) (.slice A4 i c4) i (S.map din) rfl eE.out ⟨w3.heap.size,0,none⟩ 1 1 [.int .i64 1] rfl rfl cZ.out (by simp[Value.oneCell']) (by decide) bB.out bA.out cd.out _ rfl ?_;intro g6 c6 w6 bd cj cA fD;have cE:=hid (Eg (u':= .slice (some ⟨g6,0,none⟩) (i+1) c6) dQ.out gG.out (HI.out.apart) dy cj cA rfl rfl);have fJ:Hid (Br w.heap.size w6 (.slice (some ⟨g6,0,none⟩) (i+1) c6) (i+1) (S++[1])):=hid (by unfold Br;rw[List.map_append];exact bd);have ow:w.heap.size<=w6.heap.size:=Nat.le_trans dy cE.out.2.2.size;clear bd cj cA;have mR:Hid ((w6.alloc (.cells #[.int .i64 1] 3)).ownsRow w.heap.size 3 1 (.slice A5 i c5) i (D.map din)):=hid (Af cE.out.1 (fun k _ hk=>Below.heap_alloc _ _ k hk));have fe:=hid (BV w6 3 [.int .i64 1]);have no:Hid (w.heap.size<=(w6.alloc (.cells #[.int .i64 1] 3)).heap.size):=hid (by simp;omega))|(refine wpList_append_lies _ rfl _ _ 41 rfl w.heap.size 3 i0 _ 1 8 Tryz.underlying41 hi aE hz1 bx rfl (by decide) (.slice A5 i c5) i (D.map din) rfl mR.out ⟨w6.heap.size,0,none⟩ 1 1 [.int .i64 1] rfl rfl fe.out (by simp[Value.oneCell']) (by decide) bB.out bA.out no.out _ rfl ?_;intro g7 c7 w7 aW cH dk kZ;have cY:=hid (Eg (u':= .slice (some ⟨g7,0,none⟩) (i+1) c7) cE.out.1 fJ.out (cE.out.2.1.symm) ow cH dk rfl rfl);have lp:Hid (Br w.heap.size w7 (.slice (some ⟨g7,0,none⟩) (i+1) c7) (i+1) (D++[1])):=hid (by unfold Br;rw[List.map_append];exact aW);clear aW cH dk));go_wp2_with fail;go_roundw
       case rel=>exact⟨i+1,_,_,by omega,by go_num,HI.out.next dd.out cL.out cY.out.1 lp.out cY.out.2.1.symm (cQ.out.more (cE.out.2.2.trans cY.out.2.2))⟩
       case measure=>simp[intOf];omega
      ·have dZ:(nb != 0)=true:=by rw[bne_iff_ne];exact hb
       have b9:=hid (aA.out (Lq (by omega) hb));rw[aD]at aO;clear aD hp aA hb;go_wp2_with fail;refine(aO.out _).mono ?_
       rintro e w2 ⟨rfl,rfl⟩;go_wp2_with fail;refine(co.out _).mono ?_
       rintro e w3 ⟨rfl,ab⟩;have cQ:=hid (HX.out.trans (be.out.trans ab));have aZ:=hid (dp.out.ext ab);have q0:=aZ.out.five;have dQ:=hid (dg.out.ext (be.out.trans ab));have gG:=hid (cI.out.ext (be.out.trans ab));have dy:w.heap.size<=w3.heap.size:=cQ.out.size;clear ab;go_wp2_with fail;go_ret2;exact⟨_,_,rfl,cQ.out,.inl ⟨b9.out,rfl,rfl⟩⟩
     ·have up:(na != 0)=true:=by rw[bne_iff_ne];exact ha
      have b9:=hid (aA.out (QD aD ha));rw[aD]at aO;clear aD hp aA ha;go_wp2_with fail;refine(aO.out _).mono ?_
      rintro e w2 ⟨rfl,rfl⟩;go_wp2_with fail;refine(co.out _).mono ?_
      rintro e w3 ⟨rfl,ab⟩;have cQ:=hid (HX.out.trans (be.out.trans ab));have aZ:=hid (dp.out.ext ab);have q0:=aZ.out.five;have dQ:=hid (dg.out.ext (be.out.trans ab));have gG:=hid (cI.out.ext (be.out.trans ab));have dy:w.heap.size<=w3.heap.size:=cQ.out.size;clear ab;go_wp2_with fail;go_ret2;exact⟨_,_,rfl,cQ.out,.inl ⟨b9.out,rfl,rfl⟩⟩
   ·cases hpb:p
    ·rw[hpb]at hp co;clear hpb;have b9:=hid (aA.out (Ew hp.symm));rw[aD]at aO;clear aD hp aA;go_wp2_with fail;refine(aO.out _).mono ?_
     rintro e w2 ⟨rfl,rfl⟩;go_wp2_with fail;refine(co.out _).mono ?_
     rintro e w3 ⟨rfl,ab⟩;have cQ:=hid (HX.out.trans (be.out.trans ab));have aZ:=hid (dp.out.ext ab);have q0:=aZ.out.five;have dQ:=hid (dg.out.ext (be.out.trans ab));have gG:=hid (cI.out.ext (be.out.trans ab));have dy:w.heap.size<=w3.heap.size:=cQ.out.size;clear ab;go_wp2_with fail;go_ret2;exact⟨_,_,rfl,cQ.out,.inl ⟨b9.out,rfl,rfl⟩⟩
    ·rw[hpb]at hp co;clear hpb;by_cases hb:nb=0
     ·subst hb;have nZ:IntKind.i64.wrap ((i:Int)-1)=(i:Int)-1:=IntWalk.i64_in _ (by omega);by_cases hz:na=(i:Int)-1
      ·by_cases hz0':na<0
       ·have fh:(na != (i:Int)-1)=false:=by rw[hz];simp
        have sM:decide (na<0)=true:=decide_eq_true hz0';have b9:=hid (aA.out (Hg aD (.inr hz0')));rw[aD]at aO;clear aD hp aA hz;go_wp2_with fail;refine(aO.out _).mono ?_
        rintro e w2 ⟨rfl,rfl⟩;go_wp2_with fail;refine(co.out _).mono ?_
        rintro e w3 ⟨rfl,ab⟩;have cQ:=hid (HX.out.trans (be.out.trans ab));have aZ:=hid (dp.out.ext ab);have q0:=aZ.out.five;have dQ:=hid (dg.out.ext (be.out.trans ab));have gG:=hid (cI.out.ext (be.out.trans ab));have dy:w.heap.size<=w3.heap.size:=cQ.out.size;clear ab;go_wp2_with fail;go_ret2;exact⟨_,_,rfl,cQ.out,.inl ⟨b9.out,rfl,rfl⟩⟩
       ·have fY:0<=na:=by omega
        have fh:(na != (i:Int)-1)=false:=by rw[hz];simp
        have sM:decide (na<0)=false:=decide_eq_false hz0';have i6:0<i:=by omega
        obtain⟨g4,d4,fo,yh,xB⟩:=dg.out.form i6;injection fo with fo _ he5
        subst fo;subst he5;obtain⟨g5,d5,fo,qN,qu⟩:=cI.out.form i6;injection fo with fo _ he5
        subst fo;subst he5;have lU:na.toNat<i:=by omega
        have rN:Hid (∀W,Br w.heap.size W (.slice (some ⟨g4,0,none⟩) i c4) i S->W.cell? ⟨g4,na.toNat,none⟩=some (.int .i64 ((S.getD na.toNat 0:Nat):Int))):=hid (fun W h=>h.get _ lU);have pK:Hid (∀W,Br w.heap.size W (.slice (some ⟨g5,0,none⟩) i c5) i D->W.cell? ⟨g5,na.toNat,none⟩=some (.int .i64 ((D.getD na.toNat 0:Nat):Int))):=hid (fun W h=>h.get _ lU);have hsb:=yZ.out na.toNat lU;have so:=zO.out na.toNat lU;have lV:na<(i:Int):=by omega
        have iL:Hid (AT S D ⟨kd,na,0,nn,nt⟩=some (S.getD na.toNat 0+1,D.getD na.toNat 0+1)):=hid (QF aD hp.symm (by rw[lk.out];exact hz) fY);generalize S.getD na.toNat 0=sv at *;generalize D.getD na.toNat 0=dv at *;have a5:IntKind.i64.wrap (1+(sv:Int))=((sv+1:Nat):Int):=by rw[IntWalk.i64_in _ (by omega)];omega
        have ck:IntKind.i64.wrap ((dv:Int)+1)=((dv+1:Nat):Int):=by rw[IntWalk.i64_in _ (by omega)];omega
        have ek:max (1:Int) ((dv+1:Nat):Int)=((dv+1:Nat):Int):=by omega
        obtain⟨s1,cg⟩:∃s1,s1=sv+1:=⟨_,rfl⟩;obtain⟨d1,dE⟩:∃d1,d1=dv+1:=⟨_,rfl⟩;rw[<-cg]at a5 iL;rw[<-dE]at ck ek iL;have xa:s1<=1000001:=by omega
        have x4:d1<=1000001:=by omega
        rw[aD]at aO;clear aD hp hz cg dE hsb so;go_wp2_with fail;refine(aO.out _).mono ?_
        rintro e w2 ⟨rfl,rfl⟩;go_wp2_with fail;refine(co.out _).mono ?_
        rintro e w3 ⟨rfl,ab⟩;have cQ:=hid (HX.out.trans (be.out.trans ab));have aZ:=hid (dp.out.ext ab);have q0:=aZ.out.five;have dQ:=hid (dg.out.ext (be.out.trans ab));have gG:=hid (cI.out.ext (be.out.trans ab));have dy:w.heap.size<=w3.heap.size:=cQ.out.size;clear ab;have dP:=rN.out w3 dQ.out;have cG:=pK.out w3 gG.out;go_upto_region 15 with fail;go_region
        all_goals
         obtain⟨w8,ec⟩:∃w8,w8=w3.drew:=⟨_,rfl⟩;rw[<-ec];have dB:Hid (Ext w3 w8):=hid (by rw[ec];exact(Ext.refl w3).drew);have gE:=hid (cQ.out.trans dB.out);have jm:=hid (aZ.out.ext dB.out);have q0:=jm.out.five;have kl:=hid (dQ.out.ext dB.out);have lA:=hid (gG.out.ext dB.out);have mm:w.heap.size<=w8.heap.size:=gE.out.size;clear ec;have cL:=hid (iL.out);have bB:Hid (i+1<=maxLen):=hid (by unfold maxLen;omega);have bA:Hid ((i+1)*8<=140737488355328):=hid (by omega);have eE:Hid ((w8.alloc (.cells #[.int .i64 ((s1:Nat):Int)] 3)).ownsRow w.heap.size 3 1 (.slice (some ⟨g4,0,none⟩) i c4) i (S.map din)):=hid (Af kl.out (fun k _ hk=>Below.heap_alloc _ _ k hk));have cZ:=hid (BV w8 3 [.int .i64 ((s1:Nat):Int)]);have cd:Hid (w.heap.size<=(w8.alloc (.cells #[.int .i64 ((s1:Nat):Int)] 3)).heap.size):=hid (by simp;omega);go_wp2_with (at_builtin;first|(refine wpList_append_lies _ rfl _ _ 41 rfl w.heap.size 3 i0 _ 1 8 Tryz.underlying41 hi aE hz1 bx rfl (by decide) (.slice (some ⟨g4,0,none⟩) i c4) i (S.map din) rfl eE.out ⟨w8.heap.size,0,none⟩ 1 1 [.int .i64 ((s1:Nat):Int)] rfl rfl cZ.out (by simp[Value.oneCell']) (by decide) bB.out bA.out cd.out _ rfl ?_;intro g6 c6 w6 bd cj cA fD;have cE:=hid (Eg (u':= .slice (some ⟨g6,0,none⟩) (i+1) c6) kl.out lA.out (HI.out.apart) mm cj cA rfl rfl);have fJ:Hid (Br w.heap.size w6 (.slice (some ⟨g6,0,none⟩) (i+1) c6) (i+1) (S++[s1])):=hid (by unfold Br;rw[List.map_append];exact bd);have ow:w.heap.size<=w6.heap.size:=Nat.le_trans mm cE.out.2.2.size;clear bd cj cA;have mR:Hid ((w6.alloc (.cells #[.int .i64 ((d1:Nat):Int)] 3)).ownsRow w.heap.size 3 1 (.slice (some ⟨g5,0,none⟩) i c5) i (D.map din)):=hid (Af cE.out.1 (fun k _ hk=>Below.heap_alloc _ _ k hk));have fe:=hid (BV w6 3 [.int .i64 ((d1:Nat):Int)]);have no:Hid (w.heap.size<=(w6.alloc (.cells #[.int .i64 ((d1:Nat):Int)] 3)).heap.size):=hid (by simp;omega))|(refine wpList_append_lies _ rfl _ _ 41 rfl w.heap.size 3 i0 _ 1 8 Tryz.underlying41 hi aE hz1 bx rfl (by decide) (.slice (some ⟨g5,0,none⟩) i c5) i (D.map din) rfl mR.out ⟨w6.heap.size,0,none⟩ 1 1 [.int .i64 ((d1:Nat):Int)] rfl rfl fe.out (by simp[Value.oneCell']) (by decide) bB.out bA.out no.out _ rfl ?_;intro g7 c7 w7 aW cH dk kZ;have cY:=hid (Eg (u':= .slice (some ⟨g7,0,none⟩) (i+1) c7) cE.out.1 fJ.out (cE.out.2.1.symm) ow cH dk rfl rfl);have lp:Hid (Br w.heap.size w7 (.slice (some ⟨g7,0,none⟩) (i+1) c7) (i+1) (D++[d1])):=hid (by unfold Br;rw[List.map_append];exact aW);clear aW cH dk));go_wp2_with fail;go_roundw
         case rel=>exact⟨i+1,_,_,by omega,by go_num,HI.out.next dd.out cL.out cY.out.1 lp.out cY.out.2.1.symm (gE.out.more (cE.out.2.2.trans cY.out.2.2))⟩
         case measure=>simp[intOf];omega
      ·have fh:(na != (i:Int)-1)=true:=by rw[bne_iff_ne];exact hz
       have b9:=hid (aA.out (Hg aD (.inl (by rw[lk.out];exact hz))));rw[aD]at aO;clear aD hp aA hz;go_wp2_with fail;refine(aO.out _).mono ?_
       rintro e w2 ⟨rfl,rfl⟩;go_wp2_with fail;refine(co.out _).mono ?_
       rintro e w3 ⟨rfl,ab⟩;have cQ:=hid (HX.out.trans (be.out.trans ab));have aZ:=hid (dp.out.ext ab);have q0:=aZ.out.five;have dQ:=hid (dg.out.ext (be.out.trans ab));have gG:=hid (cI.out.ext (be.out.trans ab));have dy:w.heap.size<=w3.heap.size:=cQ.out.size;clear ab;go_wp2_with fail;go_ret2;exact⟨_,_,rfl,cQ.out,.inl ⟨b9.out,rfl,rfl⟩⟩
     ·have dZ:(nb != 0)=true:=by rw[bne_iff_ne];exact hb
      have b9:=hid (aA.out (Lq (by omega) hb));rw[aD]at aO;clear aD hp aA hb;go_wp2_with fail;refine(aO.out _).mono ?_
      rintro e w2 ⟨rfl,rfl⟩;go_wp2_with fail;refine(co.out _).mono ?_
      rintro e w3 ⟨rfl,ab⟩;have cQ:=hid (HX.out.trans (be.out.trans ab));have aZ:=hid (dp.out.ext ab);have q0:=aZ.out.five;have dQ:=hid (dg.out.ext (be.out.trans ab));have gG:=hid (cI.out.ext (be.out.trans ab));have dy:w.heap.size<=w3.heap.size:=cQ.out.size;clear ab;go_wp2_with fail;go_ret2;exact⟨_,_,rfl,cQ.out,.inl ⟨b9.out,rfl,rfl⟩⟩
   ·cases hpb:p
    ·rw[hpb]at hp co;clear hpb;have b9:=hid (aA.out (Ew hp.symm));rw[aD]at aO;clear aD hp aA;go_wp2_with fail;refine(aO.out _).mono ?_
     rintro e w2 ⟨rfl,rfl⟩;go_wp2_with fail;refine(co.out _).mono ?_
     rintro e w3 ⟨rfl,ab⟩;have cQ:=hid (HX.out.trans (be.out.trans ab));have aZ:=hid (dp.out.ext ab);have q0:=aZ.out.five;have dQ:=hid (dg.out.ext (be.out.trans ab));have gG:=hid (cI.out.ext (be.out.trans ab));have dy:w.heap.size<=w3.heap.size:=cQ.out.size;clear ab;go_wp2_with fail;go_ret2;exact⟨_,_,rfl,cQ.out,.inl ⟨b9.out,rfl,rfl⟩⟩
    ·rw[hpb]at hp co;clear hpb;have nZ:IntKind.i64.wrap ((i:Int)-1)=(i:Int)-1:=IntWalk.i64_in _ (by omega);by_cases hz:nb=(i:Int)-1
     ·by_cases hz0':nb<0
      ·have fh:(nb != (i:Int)-1)=false:=by rw[hz];simp
       have sM:decide (nb<0)=true:=decide_eq_true hz0';have b9:=hid (aA.out (Hf aD (.inr hz0')));rw[aD]at aO;clear aD hp aA hz;go_wp2_with fail;refine(aO.out _).mono ?_
       rintro e w2 ⟨rfl,rfl⟩;go_wp2_with fail;refine(co.out _).mono ?_
       rintro e w3 ⟨rfl,ab⟩;have cQ:=hid (HX.out.trans (be.out.trans ab));have aZ:=hid (dp.out.ext ab);have q0:=aZ.out.five;have dQ:=hid (dg.out.ext (be.out.trans ab));have gG:=hid (cI.out.ext (be.out.trans ab));have dy:w.heap.size<=w3.heap.size:=cQ.out.size;clear ab;go_wp2_with fail;go_ret2;exact⟨_,_,rfl,cQ.out,.inl ⟨b9.out,rfl,rfl⟩⟩
      ·have fY:0<=nb:=by omega
       have fh:(nb != (i:Int)-1)=false:=by rw[hz];simp
       have sM:decide (nb<0)=false:=decide_eq_false hz0';have i6:0<i:=by omega
       obtain⟨g4,d4,fo,yh,xB⟩:=dg.out.form i6;injection fo with fo _ he5
       subst fo;subst he5;obtain⟨g5,d5,fo,qN,qu⟩:=cI.out.form i6;injection fo with fo _ he5
       subst fo;subst he5;have lU:nb.toNat<i:=by omega
       have rN:Hid (∀W,Br w.heap.size W (.slice (some ⟨g4,0,none⟩) i c4) i S->W.cell? ⟨g4,nb.toNat,none⟩=some (.int .i64 ((S.getD nb.toNat 0:Nat):Int))):=hid (fun W h=>h.get _ lU);have pK:Hid (∀W,Br w.heap.size W (.slice (some ⟨g5,0,none⟩) i c5) i D->W.cell? ⟨g5,nb.toNat,none⟩=some (.int .i64 ((D.getD nb.toNat 0:Nat):Int))):=hid (fun W h=>h.get _ lU);have hsb:=yZ.out nb.toNat lU;have so:=zO.out nb.toNat lU;have lV:nb<(i:Int):=by omega
       have iL:Hid (∀q:na=(i:Int)-((S.getD nb.toNat 0+1:Nat):Int),0<=na->AT S D ⟨kd,na,nb,nn,nt⟩=some (S.getD nb.toNat 0+1+S.getD na.toNat 0,max (D.getD nb.toNat 0+1) (D.getD na.toNat 0+1))):=hid (fun q h=>QE aD hp.symm (by rw[lk.out];exact hz) fY (by rw[lk.out];exact q) h);have rz:Hid (na≠(i:Int)-((S.getD nb.toNat 0+1:Nat):Int)\/na<0->DX l=none):=hid (fun h=>aA.out (Kt aD (by rw[lk.out];exact h)));have jv:∀q:na=(i:Int)-((S.getD nb.toNat 0+1:Nat):Int),0<=na->na.toNat<i:=fun q h=>by omega
       generalize S.getD nb.toNat 0=sv at *;generalize D.getD nb.toNat 0=dv at *;have a5:IntKind.i64.wrap (1+(sv:Int))=((sv+1:Nat):Int):=by rw[IntWalk.i64_in _ (by omega)];omega
       have ck:IntKind.i64.wrap ((dv:Int)+1)=((dv+1:Nat):Int):=by rw[IntWalk.i64_in _ (by omega)];omega
       have ek:max (1:Int) ((dv+1:Nat):Int)=((dv+1:Nat):Int):=by omega
       obtain⟨s1,cg⟩:∃s1,s1=sv+1:=⟨_,rfl⟩;obtain⟨d1,dE⟩:∃d1,d1=dv+1:=⟨_,rfl⟩;rw[<-cg]at a5 iL rz jv;rw[<-dE]at ck ek iL;have xa:s1<=1000001:=by omega
       have x4:d1<=1000001:=by omega
       have eP:IntKind.i64.wrap ((i:Int)-(s1:Int))=(i:Int)-(s1:Int):=IntWalk.i64_in _ (by omega);rw[aD]at aO;clear aD hp hz cg dE hsb so aA;by_cases hy:na=(i:Int)-(s1:Int)
       ·by_cases hy0:na<0
        ·have UQ:(na != (i:Int)-(s1:Int))=false:=by rw[hy];simp
         have WQ:decide (na<0)=true:=decide_eq_true hy0;have b9:=hid (rz.out (.inr hy0));clear jv hy rz iL;go_wp2_with fail;refine(aO.out _).mono ?_
         rintro e w2 ⟨rfl,rfl⟩;go_wp2_with fail;refine(co.out _).mono ?_
         rintro e w3 ⟨rfl,ab⟩;have cQ:=hid (HX.out.trans (be.out.trans ab));have aZ:=hid (dp.out.ext ab);have q0:=aZ.out.five;have dQ:=hid (dg.out.ext (be.out.trans ab));have gG:=hid (cI.out.ext (be.out.trans ab));have dy:w.heap.size<=w3.heap.size:=cQ.out.size;clear ab;have dP:=rN.out w3 dQ.out;have cG:=pK.out w3 gG.out;go_upto_region 15 with fail;go_region
         all_goals
          obtain⟨w8,ec⟩:∃w8,w8=w3.drew:=⟨_,rfl⟩;rw[<-ec];have dB:Hid (Ext w3 w8):=hid (by rw[ec];exact(Ext.refl w3).drew);have gE:=hid (cQ.out.trans dB.out);have jm:=hid (aZ.out.ext dB.out);have q0:=jm.out.five;have kl:=hid (dQ.out.ext dB.out);have lA:=hid (gG.out.ext dB.out);have mm:w.heap.size<=w8.heap.size:=gE.out.size;clear ec;go_wp2_with fail;go_ret2;exact⟨_,_,rfl,gE.out,.inl ⟨b9.out,rfl,rfl⟩⟩
        ·have nY:0<=na:=by omega
         have UQ:(na != (i:Int)-(s1:Int))=false:=by rw[hy];simp
         have WQ:decide (na<0)=false:=decide_eq_false hy0;have kR:=jv hy nY;have ib:=hid (iL.out hy nY);have Zu:Hid (∀W,Br w.heap.size W (.slice (some ⟨g4,0,none⟩) i c4) i S->W.cell? ⟨g4,na.toNat,none⟩=some (.int .i64 ((S.getD na.toNat 0:Nat):Int))):=hid (fun W h=>h.get _ kR);have Zt:Hid (∀W,Br w.heap.size W (.slice (some ⟨g5,0,none⟩) i c5) i D->W.cell? ⟨g5,na.toNat,none⟩=some (.int .i64 ((D.getD na.toNat 0:Nat):Int))):=hid (fun W h=>h.get _ kR);have hsb:=yZ.out na.toNat kR;have so:=zO.out na.toNat kR;have WR:na<(i:Int):=by omega
         generalize S.getD na.toNat 0=sa at *;generalize D.getD na.toNat 0=da at *;have hw4:IntKind.i64.wrap ((s1:Int)+(sa:Int))=((s1+sa:Nat):Int):=by rw[IntWalk.i64_in _ (by omega)];omega
         have eh:IntKind.i64.wrap ((da:Int)+1)=((da+1:Nat):Int):=by rw[IntWalk.i64_in _ (by omega)];omega
         have Vd:max (d1:Int) ((da+1:Nat):Int)=((max d1 (da+1):Nat):Int):=by omega
         obtain⟨s2,iz⟩:∃s2,s2=s1+sa:=⟨_,rfl⟩;obtain⟨d2,ed⟩:∃d2,d2=da+1:=⟨_,rfl⟩;rw[<-iz]at hw4 ib;rw[<-ed]at eh Vd ib;obtain⟨d3,xZ⟩:∃d3,d3=max d1 d2:=⟨_,rfl⟩;rw[<-xZ]at Vd ib;clear jv hy rz iL kR iz ed xZ hsb so;go_wp2_with fail;refine(aO.out _).mono ?_
         rintro e w2 ⟨rfl,rfl⟩;go_wp2_with fail;refine(co.out _).mono ?_
         rintro e w3 ⟨rfl,ab⟩;have cQ:=hid (HX.out.trans (be.out.trans ab));have aZ:=hid (dp.out.ext ab);have q0:=aZ.out.five;have dQ:=hid (dg.out.ext (be.out.trans ab));have gG:=hid (cI.out.ext (be.out.trans ab));have dy:w.heap.size<=w3.heap.size:=cQ.out.size;clear ab;have dP:=rN.out w3 dQ.out;have cG:=pK.out w3 gG.out;go_upto_region 15 with fail;go_region
         all_goals
          obtain⟨w8,ec⟩:∃w8,w8=w3.drew:=⟨_,rfl⟩;rw[<-ec];have dB:Hid (Ext w3 w8):=hid (by rw[ec];exact(Ext.refl w3).drew);have gE:=hid (cQ.out.trans dB.out);have jm:=hid (aZ.out.ext dB.out);have q0:=jm.out.five;have kl:=hid (dQ.out.ext dB.out);have lA:=hid (gG.out.ext dB.out);have mm:w.heap.size<=w8.heap.size:=gE.out.size;clear ec;have iA:=Zu.out w8 kl.out;have od:=Zt.out w8 lA.out;go_upto_region 19 with fail;go_region
          all_goals
           obtain⟨w9,wS⟩:∃w9,w9=w8.drew:=⟨_,rfl⟩;rw[<-wS];have oO:Hid (Ext w8 w9):=hid (by rw[wS];exact(Ext.refl w8).drew);have uJ:=hid (gE.out.trans oO.out);have zT:=hid (jm.out.ext oO.out);have q0:=zT.out.five;have vg:=hid (kl.out.ext oO.out);have zI:=hid (lA.out.ext oO.out);have tX:w.heap.size<=w9.heap.size:=uJ.out.size;clear wS;have cL:=hid (ib.out);have bB:Hid (i+1<=maxLen):=hid (by unfold maxLen;omega);have bA:Hid ((i+1)*8<=140737488355328):=hid (by omega);have eE:Hid ((w9.alloc (.cells #[.int .i64 ((s2:Nat):Int)] 3)).ownsRow w.heap.size 3 1 (.slice (some ⟨g4,0,none⟩) i c4) i (S.map din)):=hid (Af vg.out (fun k _ hk=>Below.heap_alloc _ _ k hk));have cZ:=hid (BV w9 3 [.int .i64 ((s2:Nat):Int)]);have cd:Hid (w.heap.size<=(w9.alloc (.cells #[.int .i64 ((s2:Nat):Int)] 3)).heap.size):=hid (by simp;omega);go_wp2_with (at_builtin;first|(refine wpList_append_lies _ rfl _ _ 41 rfl w.heap.size 3 i0 _ 1 8 Tryz.underlying41 hi aE hz1 bx rfl (by decide) (.slice (some ⟨g4,0,none⟩) i c4) i (S.map din) rfl eE.out ⟨w9.heap.size,0,none⟩ 1 1 [.int .i64 ((s2:Nat):Int)] rfl rfl cZ.out (by simp[Value.oneCell']) (by decide) bB.out bA.out cd.out _ rfl ?_;intro g6 c6 w6 bd cj cA fD;have cE:=hid (Eg (u':= .slice (some ⟨g6,0,none⟩) (i+1) c6) vg.out zI.out (HI.out.apart) tX cj cA rfl rfl);have fJ:Hid (Br w.heap.size w6 (.slice (some ⟨g6,0,none⟩) (i+1) c6) (i+1) (S++[s2])):=hid (by unfold Br;rw[List.map_append];exact bd);have ow:w.heap.size<=w6.heap.size:=Nat.le_trans tX cE.out.2.2.size;clear bd cj cA;have mR:Hid ((w6.alloc (.cells #[.int .i64 ((d3:Nat):Int)] 3)).ownsRow w.heap.size 3 1 (.slice (some ⟨g5,0,none⟩) i c5) i (D.map din)):=hid (Af cE.out.1 (fun k _ hk=>Below.heap_alloc _ _ k hk));have fe:=hid (BV w6 3 [.int .i64 ((d3:Nat):Int)]);have no:Hid (w.heap.size<=(w6.alloc (.cells #[.int .i64 ((d3:Nat):Int)] 3)).heap.size):=hid (by simp;omega))|(refine wpList_append_lies _ rfl _ _ 41 rfl w.heap.size 3 i0 _ 1 8 Tryz.underlying41 hi aE hz1 bx rfl (by decide) (.slice (some ⟨g5,0,none⟩) i c5) i (D.map din) rfl mR.out ⟨w6.heap.size,0,none⟩ 1 1 [.int .i64 ((d3:Nat):Int)] rfl rfl fe.out (by simp[Value.oneCell']) (by decide) bB.out bA.out no.out _ rfl ?_;intro g7 c7 w7 aW cH dk kZ;have cY:=hid (Eg (u':= .slice (some ⟨g7,0,none⟩) (i+1) c7) cE.out.1 fJ.out (cE.out.2.1.symm) ow cH dk rfl rfl);have lp:Hid (Br w.heap.size w7 (.slice (some ⟨g7,0,none⟩) (i+1) c7) (i+1) (D++[d3])):=hid (by unfold Br;rw[List.map_append];exact aW);clear aW cH dk));go_wp2_with fail;go_roundw
           case rel=>exact⟨i+1,_,_,by omega,by go_num,HI.out.next dd.out cL.out cY.out.1 lp.out cY.out.2.1.symm (uJ.out.more (cE.out.2.2.trans cY.out.2.2))⟩
           case measure=>simp[intOf];omega
       ·have UQ:(na != (i:Int)-(s1:Int))=true:=by rw[bne_iff_ne];exact hy
        have b9:=hid (rz.out (.inl hy));clear jv hy rz iL;go_wp2_with fail;refine(aO.out _).mono ?_
        rintro e w2 ⟨rfl,rfl⟩;go_wp2_with fail;refine(co.out _).mono ?_
        rintro e w3 ⟨rfl,ab⟩;have cQ:=hid (HX.out.trans (be.out.trans ab));have aZ:=hid (dp.out.ext ab);have q0:=aZ.out.five;have dQ:=hid (dg.out.ext (be.out.trans ab));have gG:=hid (cI.out.ext (be.out.trans ab));have dy:w.heap.size<=w3.heap.size:=cQ.out.size;clear ab;have dP:=rN.out w3 dQ.out;have cG:=pK.out w3 gG.out;go_upto_region 15 with fail;go_region
        all_goals
         obtain⟨w8,ec⟩:∃w8,w8=w3.drew:=⟨_,rfl⟩;rw[<-ec];have dB:Hid (Ext w3 w8):=hid (by rw[ec];exact(Ext.refl w3).drew);have gE:=hid (cQ.out.trans dB.out);have jm:=hid (aZ.out.ext dB.out);have q0:=jm.out.five;have kl:=hid (dQ.out.ext dB.out);have lA:=hid (gG.out.ext dB.out);have mm:w.heap.size<=w8.heap.size:=gE.out.size;clear ec;go_wp2_with fail;go_ret2;exact⟨_,_,rfl,gE.out,.inl ⟨b9.out,rfl,rfl⟩⟩
     ·have fh:(nb != (i:Int)-1)=true:=by rw[bne_iff_ne];exact hz
      have b9:=hid (aA.out (Hf aD (.inl (by rw[lk.out];exact hz))));rw[aD]at aO;clear aD hp aA hz;go_wp2_with fail;refine(aO.out _).mono ?_
      rintro e w2 ⟨rfl,rfl⟩;go_wp2_with fail;refine(co.out _).mono ?_
      rintro e w3 ⟨rfl,ab⟩;have cQ:=hid (HX.out.trans (be.out.trans ab));have aZ:=hid (dp.out.ext ab);have q0:=aZ.out.five;have dQ:=hid (dg.out.ext (be.out.trans ab));have gG:=hid (cI.out.ext (be.out.trans ab));have dy:w.heap.size<=w3.heap.size:=cQ.out.size;clear ab;go_wp2_with fail;go_ret2;exact⟨_,_,rfl,cQ.out,.inl ⟨b9.out,rfl,rfl⟩⟩
  ·obtain rfl:i=n:=by omega
   have nE:=HI.out.go;rw[List.drop_eq_nil_of_le (by rw[<-HN.out];exact Nat.le_refl _)]at nE;have eN:Hid (DX l=if l.length=0\/S.getD (l.length-1) 0≠l.length then none else some (S,D)):=hid (by unfold DX;rw[nE];rfl);rw[<-HN.out]at eN;have HX:=hid aX.ext;have dg:=hid aX.r4;have cI:=hid aX.r5;have mQ:=hid aX.ok.size;clear aX nE;by_cases hz:i=0
   ·subst hz;have b9:Hid (DX l=none):=hid (by rw[eN.out,if_pos (.inl rfl)]);go_wp2_with fail;go_ret2;exact⟨_,_,rfl,HX.out,.inl ⟨b9.out,rfl,rfl⟩⟩
   ·obtain⟨g4,d4,fo,_,_⟩:=dg.out.form (by omega);injection fo with fo _ he5
    subst fo;clear he5;obtain⟨y,hy⟩:∃y:Int,y=(i:Int)-1:=⟨_,rfl⟩;have aa:=dg.out.get (i-1) (by omega);have hj:y.toNat=i-1:=by omega
    have nz:((i:Int) == 0)=false:=by rw[beq_eq_false_iff_ne];omega
    have nZ:IntKind.i64.wrap ((i:Int)-1)=y:=by rw[IntWalk.i64_in _ (by omega),hy]
    have oe:(0:Int)<=y:=by omega
    have ii:y<(i:Int):=by omega
    rw[<-hj]at aa eN;have uW:=hid (And.intro dg.out.len cI.out.len);have U4:=mQ.out (i-1) (by have:=dg.out.len;omega);rw[<-hj]at U4;generalize S.getD y.toNat 0=sv at *;clear hj mQ hy U4;by_cases he:sv=i
    ·have jA:Hid (DX l=some (S,D)):=hid (by rw[eN.out,if_neg (by omega)]);subst he;have hne:((sv:Int) != (sv:Int))=false:=by simp
     clear eN hz;go_wp2_with fail;go_ret2;exact⟨_,_,rfl,HX.out,.inr ⟨S,D,jA.out,by rw[<-HN.out];exact uW.out.1,by rw[<-HN.out];exact uW.out.2,dg.out.arr,cI.out.arr⟩⟩
    ·have b9:Hid (DX l=none):=hid (by rw[eN.out,if_pos (.inr he)]);have hne:((sv:Int) != (i:Int))=true:=by rw[bne_iff_ne];omega
     clear eN hz he;go_wp2_with fail;go_ret2;exact⟨_,_,rfl,HX.out,.inl ⟨b9.out,rfl,rfl⟩⟩
theorem JN(w:World)(v:Value)(l:List Nd)(hr:RNd w v l)(hl:l.length<=1000000)(l7:∀x∈l,x.text.length<=1073741824):Calls Tryz.prog 67 #[v] w fun e w'=>e= .returned (.bool (FM l))/\Ext w w':=by
 have HS:=hid (OY w v l hr hl l7);have HV:Hid (FM l=(decide (1<=l.length/\l.length<=200) && match DX l with|none=>false|some (_,D)=>decide (D.getD (l.length-1) 0<=40))):=hid rfl;obtain⟨A,c,rfl,_⟩:=hr;generalize FM l=r at *;clear l7;obtain⟨n,hn⟩:∃n,n=l.length:=⟨_,rfl⟩;have HN:=hid hn;rw[<-hn]at hl HV HS ⊢;clear hn;by_cases h1:n<1
 ·obtain rfl:n=0:=by omega
  clear HS h1;go_enter Tryz.func67,Tryz.ntmps67;go_wp2_with fail;go_ret;exact⟨by rw[HV.out];rfl,Ext.refl w⟩
 ·have VM:decide ((n:Int)<1)=false:=decide_eq_false (by omega);have Yz:¬((n:Int)<1):=by omega
  by_cases h2:200<n
  ·have Yx:decide ((n:Int)>200)=true:=decide_eq_true (by omega);have yA:(200:Int)<(n:Int):=by omega
   have hd:decide (1<=n/\n<=200)=false:=decide_eq_false (by omega);rw[hd]at HV;clear HS h1 h2 hd;go_enter Tryz.func67,Tryz.ntmps67;go_wp2_with fail;go_ret;exact⟨by rw[HV.out];rfl,Ext.refl w⟩
  ·have Yx:decide ((n:Int)>200)=false:=decide_eq_false (by omega);have yA:¬(200:Int)<(n:Int):=by omega
   have hd:decide (1<=n/\n<=200)=true:=decide_eq_true (by omega);rw[hd,Bool.true_and]at HV;have Yy:1<=n:=by omega
   clear h1 h2 hd;go_enter Tryz.func67,Tryz.ntmps67;go_wp2_with fail;refine HS.out.mono ?_
   rintro e w1 ⟨v1,v2,rfl,hx,hp⟩;have HX:=hid hx;clear hx;rcases hp with ⟨hs,rfl,rfl⟩|⟨S,D,hs,kU,oy,h4,h5⟩
   ·rw[hs]at HV;clear hs;go_wp2_with fail;go_ret;exact⟨by rw[HV.out];rfl,HX.out⟩
   ·rw[hs]at HV;have fF:Hid (r=decide (D.getD (n-1) 0<=40)):=hid HV.out;clear HV;obtain⟨A4,c4,rfl,_⟩:=h4.open;obtain⟨A5,c5,rfl,h6⟩:=h5.open;rw[<-HN.out]at kU oy;rw[oy]at h6;obtain⟨g5,o5,rfl,_,h7⟩:=h6 (by omega);have h8:=h7 (n-1) (by omega);obtain⟨y,hy⟩:∃y:Int,y=(n:Int)-1:=⟨_,rfl⟩;have hj:y.toNat=n-1:=by omega
    rw[<-hj]at h8 fF;have hw:IntKind.i64.wrap ((n:Int)-1)=y:=by rw[IntWalk.i64_in _ (by omega),hy]
    have oe:(0:Int)<=y:=by omega
    have ii:y<(n:Int):=by omega
    generalize D.getD y.toNat 0=dv at *;have cC:(0:Int)<(n:Int):=by omega
    have hdv:decide (dv<=40)=decide ((dv:Int)<=40):=by rw[decide_eq_decide];omega
    have vi:=hid hdv;rw[kU,oy];clear hs h4 h5 h6 h7 hj hy hdv kU oy;go_wp2_with fail;go_ret;exact⟨by rw[fF.out,vi.out];rfl,HX.out⟩
theorem GT(e:Ex)(hg:e.Good):∀off,∀x∈Ah off e,x.text.length<=1073741824:=by
 induction e with
 |leaf k t=>
  intro off x hx;rw[Ah,List.mem_singleton]at hx;subst hx;rcases hg with ⟨_,_,h⟩|⟨_,h⟩|⟨_,rfl⟩
  ·simp only;omega
  ·have:=F4 (Bool.and_eq_true_iff.1 h).1;simp only;omega
  ·simp
 |un k n x ih=>
  intro off y hy;rw[Ah,List.mem_append,List.mem_singleton]at hy;rcases hy with hy|rfl
  ·exact ih hg.2.2.2.2 off y hy
  ·simp
 |bin k x z ihx ihy=>
  intro off y hy;rw[Ah,List.mem_append,List.mem_append,List.mem_singleton]at hy;rcases hy with hy|hy|rfl
  ·exact ihx hg.2.1 _ y hy
  ·exact ihy hg.2.2 _ y hy
  ·simp
theorem FC.whole(e:Ex):FC (Ah 0 e) (e.size-1) e:=⟨[],[],by simp,by have:=e.size_pos;simp;omega⟩
def UC(m:Int)(s:List UInt8):List UInt8:=if m=0 then 40::(s++[41]) else if m=1 then 32::(s++[32,32]) else s
def BW(w:World):Prop:=∃m:Int,w.cell? ⟨0,0,none⟩=some (.int .i64 m)
theorem BW.ext{w w':World}(h:BW w)(hx:Ext w w'):BW w':=by
 obtain⟨m,h⟩:=h;exact⟨m,hx.keep h⟩
theorem I2{w:World}(h:w.ShapedOpen Tryz.prog):BW w:=Tryz.laysM145.s1_3 w h
theorem Tg(w:World)(l:List UInt8)(hl:l.length<=1073741824)(hm:BW w):
  Calls Tryz.prog 207 #[str l,.string ⟨#[46]⟩] w fun e w'=>e= .returned (.tuple #[str (whole l),str (AS l),.bool (AF l)])/\Ext w w':=by
 obtain⟨m,hm⟩:=hm;have h:=Any.strings_Cut { Tryz.laysM145 with } ⟨l.toArray⟩ ⟨#[46]⟩ m w (by rw[BZ];omega) hm;have e:=Tf l;have e1:Lib.cut (⟨l.toArray⟩:ByteArray).data.toList (⟨#[46]⟩:ByteArray).data.toList=(whole l,AS l,AF l):=e;rw[e1]at h;refine h.mono ?_
 rintro e w' ⟨rfl,n,rfl⟩;exact⟨rfl,(Ext.refl w).drewN n⟩
theorem OJ(w:World)(l:List UInt8):
  Calls Tryz.prog 208 #[str l,.string ⟨#[48]⟩] w fun e w'=>e= .returned (str (l.dropWhile (· == 48)))/\w=w':=by
 refine(Tryz.strings_TrimLeft_one ⟨l.toArray⟩ 48 (by decide) w).mono ?_
 rintro e w' ⟨rfl,rfl⟩;exact⟨rfl,rfl⟩
theorem OL(w:World)(l:List UInt8)(hl:l.length<=1073741824)(h:l.all Bk=true):
  Calls Tryz.prog 210 #[str l,.string ⟨#[48,49,50,51,52,53,54,55,56,57]⟩] w fun e w'=>e= .returned (str [])/\Ext w w':=by
 refine(Any.strings_Trim_laid Tryz.lays160 (by kernel_rfl) ⟨l.toArray⟩ ⟨#[48,49,50,51,52,53,54,55,56,57]⟩ w (by rw[BZ];omega) (by decide) (ascii_of_all (by decide))).mono ?_
 rintro e w' ⟨rfl,hb⟩;have e1:Lib.trimS (⟨l.toArray⟩:ByteArray).data.toList (⟨#[48,49,50,51,52,53,54,55,56,57]⟩:ByteArray).data.toList=[]:=OK l h;rw[e1];exact⟨rfl,hb⟩
def Iq(w0 wr:World)(xs:List Nat)(m c k cy:Nat):Prop:=
 ∃ys:List Nat,ys.length=k/\Ok ys/\val ys+4294967296 ^ k*cy=val (xs.take k)*m+c/\
  Blk wr w0.heap.size 183 (cells (ys++List.replicate (xs.length+1-k) 0))/\Ext w0 wr
theorem Iq.step {w0 wr:World} {xs ys:List Nat} {m c k q x:Nat} (hk:k<xs.length) (hl:ys.length=k) (ax:Ok ys)
  (hv:val (ys++[(q+x*m) % 4294967296])+4294967296 ^ (k+1)*((q+x*m) / 4294967296)=val (xs.take (k+1))*m+c)
  (hb:Blk wr w0.heap.size 183 (cells (ys++List.replicate (xs.length+1-k) 0))) (he:Ext w0 wr):
  Iq w0 (wr.setCell ⟨w0.heap.size,k,none⟩ (d32 ((q+x*m) % 4294967296))) xs m c (k+1) ((q+x*m) / 4294967296):=by
 refine⟨ys++[(q+x*m) % 4294967296],by simp[hl],ax.snoc (Nat.mod_lt _ (by omega)),hv,?_,he.setCell (Nat.le_refl _) _⟩;have h1:=hb.set_ k (d32 ((q+x*m) % 4294967296));rw[Bp,show xs.length+1-k=(xs.length-k)+1 by omega]at h1;have h2:=C7 ys (xs.length-k) ((q+x*m) % 4294967296);rw[hl]at h2;rw[h2]at h1;rw[show xs.length+1-(k+1)=xs.length-k by omega];exact h1
theorem ED(w:World)(v:Value)(xs:List Nat)(m c:Nat)(h:Arr w v xs)(hn:xs.length<=536870912)(hm:m<4294967296)(hc:c<4294967296):
  Calls Tryz.prog 246 #[v,.int .u32 (m:Int),.int .u32 (c:Int)] w fun e w'=>∃v',e= .returned v'/\Own w.heap.size w' v' (Ac (val xs*m+c))/\Ext w w':=by
 have HA:=hid h;obtain⟨ax,A,cap,rfl,dz,ek,aa⟩:=h.open;have HM:=hid ek;have HC:=hid aa;have cS:=CN xs.length (by omega);have oK:=hid cS;clear h aa ek dz;go_enter Tryz.func246,Tryz.ntmps246;go_wp2_with fail;clear cS;go_loopw [8,19] (fun cy i wr=>∃k q:Nat,k<=xs.length/\q<4294967296/\i= .int .i64 k/\cy= .int .u64 q/\Iq w wr xs m c k q) (fun _ i _=>xs.length-(intOf i).toNat)
 case atStart=>exact⟨0,c,Nat.zero_le _,hc,rfl,rfl,[],rfl,B3,by simp[val],Blk.new _ _ _,(Ext.refl w).alloc _⟩
 case round=>
  obtain⟨k,q,hk,hq,rfl,rfl,ys,hl,bE,hv,ao,ad⟩:=hrel;have HV:=hid hv;clear hv;have HB:=hid ao;clear ao;have HL:=hid hl;clear hl;by_cases hlt:k<xs.length
  ·obtain⟨b,o,rfl,hb,aa⟩:=HC.out (by omega);have hx:=(ad.cell hb).trans (aa k hlt);have ac:=HB.out.cell k;have gP:=HB.out.frozen k;rw[AY _ _ (by simp[HL.out];omega)]at ac;clear aa;have cK:=ax.get k;have HS:=hid (Iz xs ys k m c q hlt HL.out HV.out);have hp:=Im cK hm;obtain⟨x,b7⟩:∃x,xs.getD k 0=x:=⟨_,rfl⟩;rw[b7]at hx cK hp HS;clear b7;have tt:(x:Int)*(m:Int)<=18446744065119617025:=by rw[<-Int.natCast_mul];omega
   have hp0:0<=(x:Int)*(m:Int):=by rw[<-Int.natCast_mul];omega
   simp only[d32]at hx ac
   go_wp2
   go_round
   case rel=>
    refine⟨k+1,(q+x*m) / 4294967296,by omega,?_,by go_num,by go_num,?_⟩
    ·exact Nat.div_lt_of_lt_mul (by omega)
    ·exact Iq.step hlt HL.out bE HS.out HB.out ad
   case measure=>simp[intOf];omega
  ·obtain rfl:k=xs.length:=by omega
   have ac:=HB.out.cell xs.length;have gP:=HB.out.frozen xs.length;rw[AY _ _ (by simp[HL.out])]at ac;have aw:Own w.heap.size (wr.setCell ⟨w.heap.size,xs.length,none⟩ (d32 q)) (.slice (some ⟨w.heap.size,0,none⟩) (xs.length+1) (xs.length+1)) (ys++[q]):=by
    have h1:=HB.out.set_ xs.length (d32 q);have h2:=C7 ys 0 q;rw[HL.out]at h2;rw[Bp,show xs.length+1-xs.length=0+1 by omega,h2]at h1;have h3:=Own.block (B:=w.heap.size) (bE.snoc hq) (by simpa using h1) (Nat.le_refl _) (by simp[HL.out];omega)
    simpa [HL.out] using h3
   have bj:val (ys++[q])=val xs*m+c:=by
    rw[BG,HL.out,HV.out,List.take_of_length_le (Nat.le_refl _)]
   have HT:=hid (Bh _ _ _ aw.arr (by simp[HL.out];omega));rw[bj]at HT;have gT:=hid bj;have HO:=hid aw;clear bj aw;simp only[d32]at ac;go_wp2_with fail;refine HT.out.mono ?_
   rintro e w' ⟨v',rfl,ho,hx⟩;go_wp2_with fail;go_ret;have he:Ext w (wr.setCell ⟨w.heap.size,xs.length,none⟩ (d32 q)):=ad.setCell (Nat.le_refl _) _;exact⟨_,rfl,ho.mono he.size,he.trans hx⟩
end Big
end Go.Proofs.YtkoaogkknnelaaaGreatDoor
