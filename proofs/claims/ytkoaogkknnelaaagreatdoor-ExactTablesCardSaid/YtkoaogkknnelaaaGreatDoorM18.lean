import Derived.Test.YtkoaogkknnelaaaGreatDoorM15
import Derived.Test.YtkoaogkknnelaaaGreatDoorM17
import Derived.Laws.Closers25
import Derived.Deep.AppendLies
import Derived.Lib.MinMax
import Derived.Shelf.Strings.SlTrimAscii
set_option linter.unusedVariables false
set_option linter.unusedSimpArgs false
set_option maxHeartbeats 4000000
set_option maxRecDepth 100000
namespace Go.Proofs.YtkoaogkknnelaaaGreatDoor
namespace Big
open Lib renaming hid → J
open Go.RowKit
theorem PR(w:World)(l:List UInt8)(hl:l.length<=1073741824):Calls Tryz.prog 99 #[str l] w fun e w'=>e= .returned (.bool (DQ l))/\Ext w w':=by
 have HW:=J (fun W=>PZ W l hl);have HR:=J (fun W=>Kg W l);have h:DQ l=(C9 l && !Bn l):=by rw[CB];rfl
 have H:=J h;clear h;cases hw:C9 l
 ·rw[hw]at HW H;clear hw;go_enter Tryz.func99,Tryz.ntmps99;go_wp2_with fail;refine(HW.o _).mono ?_
  rintro e w1 ⟨rfl,rfl⟩;go_wp2_with fail;go_ret;exact⟨by rw[H.o];rfl,Ext.refl _⟩
 ·rw[hw]at HW H;clear hw;generalize Bn l=r at *;go_enter Tryz.func99,Tryz.ntmps99;go_wp2_with fail;refine(HW.o _).mono ?_
  rintro e w1 ⟨rfl,rfl⟩;go_wp2_with fail;refine(HR.o _).mono ?_
  rintro e w2 ⟨rfl,hx⟩;have HX:=J hx;clear hx;go_wp2_with fail;go_ret;exact⟨by rw[H.o];rfl,HX.o⟩
theorem IM(t:List UInt8):(⟨t.toArray⟩:ByteArray).toList.isEmpty=(t == []):=by
 rw[<-decide_eq_emptyBytes,qaM];simp only[decide_eq_true_eq,beq_iff_eq];constructor
 ·intro h;have:=congrArg (fun b:ByteArray=>b.data.toList) h
  simpa using this
 ·intro h;subst h;rfl
def ndV(x:Nd):Value:= .agg #[.int .i64 x.kind,.int .i64 x.a,.int .i64 x.b,.int .i64 x.n,str x.text]
theorem KO(n:Int):decide (-64<=n/\n<=64)=(decide (-64<=n) && decide (n<=64)):=by simp
theorem KM(w:World)(x:Nd)(hl:x.text.length<=1073741824):Calls Tryz.prog 173 #[ndV x] w fun e w'=>e= .returned (.bool (AA x))/\Ext w w':=by
 obtain⟨k,a,b,n,t⟩:=x;simp only[ndV]at hl ⊢;have HP:=J (fun W=>Fu W t);have HN:=J (fun W=>PR W t hl);obtain⟨s,hs⟩:∃s:ByteArray,s=⟨t.toArray⟩:=⟨_,rfl⟩;have hst:str t= .string s:=by rw[hs];rfl
 have hne:s.toList.isEmpty=(t == []):=by rw[hs];exact IM t
 rw[hst]at HP HN ⊢;clear hs hst;have hb0:=Blk.new w 95 #[.int .i64 k,.int .i64 a,.int .i64 b,.int .i64 n,.string s];have bP:=J ((Ext.refl w).alloc (.cells #[.int .i64 k,.int .i64 a,.int .i64 b,.int .i64 n,.string s] 95));have aj:=J hb0;have q0:=hb0.five;clear hb0;have hM:∀h:Bool,(AA ⟨k,a,b,n,t⟩=(Co ⟨k,a,b,n,t⟩ && Cc ⟨k,a,b,n,t⟩)):=fun _=>rfl
 have key:(k=1)\/(k=2)\/(k≠1/\k≠2):=by omega
 rcases key with rfl|rfl|⟨fJ,hk2⟩
 ·by_cases hc0:Bh t=0
  ·have H:Hid (AA ⟨1,a,b,n,t⟩=(n == 0)):=J (by unfold AA Co Cc;simp[hc0]);have HC:=J hc0;clear hc0 hM hne;generalize AA ⟨1,a,b,n,t⟩=r at *;go_enter Tryz.func173,Tryz.ntmps173;go_wp2_with fail;refine(HP.o _).mono ?_
   rintro e w5 ⟨v5,rfl,dg,hx5⟩;obtain⟨b5,n5,A5,c5,n6,A6,c6,rfl⟩:=dg.shape;have dd:=hx5.alloc (.cells #[.bool b5,.slice A5 n5 c5,.slice A6 n6 c6] 26);have dD:=J (bP.o.trans dd);have q0:=(aj.o.ext dd).five;clear dg hx5 dd;rw[HC.o];go_wp2_with fail;go_ret;exact⟨by rw[H.o];rfl,dD.o⟩
  ·have H:Hid (AA ⟨1,a,b,n,t⟩=false):=J (by unfold AA Co Cc;simp[hc0]);have oG:((Bh t:Int) != 0)=true:=by
    rw[bne_iff_ne];omega
   clear hc0 hM hne;generalize AA ⟨1,a,b,n,t⟩=r at *;generalize hce:(Bh t:Int)=ce at *;clear q0;go_enter Tryz.func173,Tryz.ntmps173;have q0:=aj.o.five;go_wp2_with fail;refine(HP.o _).mono ?_
   rintro e w5 ⟨v5,rfl,dg,hx5⟩;obtain⟨b5,n5,A5,c5,n6,A6,c6,rfl⟩:=dg.shape;have dd:=hx5.alloc (.cells #[.bool b5,.slice A5 n5 c5,.slice A6 n6 c6] 26);have dD:=J (bP.o.trans dd);clear dg hx5 dd;rw[hce];go_wp2_with fail;go_ret;exact⟨by rw[H.o];rfl,dD.o⟩
 ·have H:Hid (AA ⟨2,a,b,n,t⟩=(DQ t && (n == 0))):=J (by unfold AA Co Cc;simp);generalize AA ⟨2,a,b,n,t⟩=r at *;clear hM hne;cases hnb:DQ t
  ·rw[hnb]at HN H;clear hnb;go_enter Tryz.func173,Tryz.ntmps173;go_wp2_with fail;refine(HN.o _).mono ?_
   rintro e w5 ⟨rfl,hx5⟩;have dD:=J (bP.o.trans hx5);clear hx5;go_wp2_with fail;go_ret;exact⟨by rw[H.o];rfl,dD.o⟩
  ·rw[hnb]at HN H;clear hnb;go_enter Tryz.func173,Tryz.ntmps173;go_wp2_with fail;refine(HN.o _).mono ?_
   rintro e w5 ⟨rfl,hx5⟩;have dD:=J (bP.o.trans hx5);have q0:=(aj.o.ext hx5).five;clear hx5;go_wp2_with fail;go_ret;exact⟨by rw[H.o];rfl,dD.o⟩
 ·have e1:(k == 1)=false:=by rw[beq_eq_false_iff_ne];omega
  have e2:(k == 2)=false:=by rw[beq_eq_false_iff_ne];omega
  have H1:Hid (AA ⟨k,a,b,n,t⟩=(s.toList.isEmpty && Cc ⟨k,a,b,n,t⟩)):=J (by rw[hne];unfold AA Co;rw[if_neg fJ,if_neg hk2]);have H2:Hid (Cc ⟨k,a,b,n,t⟩=if k=10 then decide (-64<=n/\n<=64) else n == 0):=J rfl;generalize AA ⟨k,a,b,n,t⟩=r at *;generalize Cc ⟨k,a,b,n,t⟩=m at *;clear hM hne fJ hk2 HP HN hl;cases hsb:s.toList.isEmpty
  ·rw[hsb]at H1;go_enter Tryz.func173,Tryz.ntmps173;go_wp2_with fail;go_ret;exact⟨by rw[H1.o];rfl,bP.o⟩
  ·rw[hsb]at H1;by_cases h10:k=10
   ·subst h10;have H3:Hid (m=(decide (-64<=n) && decide (n<=64))):=J (by rw[H2.o,if_pos rfl,KO]);by_cases hn: -64<=n
    ·have hd:decide (-64<=n)=true:=decide_eq_true hn;rw[hd]at H3;go_enter Tryz.func173,Tryz.ntmps173;go_wp2_with fail;go_ret;exact⟨by rw[H1.o,H3.o];rfl,bP.o⟩
    ·have hd:decide (-64<=n)=false:=decide_eq_false hn;rw[hd]at H3;go_enter Tryz.func173,Tryz.ntmps173;go_wp2_with fail;go_ret;exact⟨by rw[H1.o,H3.o];rfl,bP.o⟩
   ·have th:(k == 10)=false:=by rw[beq_eq_false_iff_ne];exact h10
    have H3:Hid (m=(n == 0)):=J (by rw[H2.o,if_neg h10]);clear h10;go_enter Tryz.func173,Tryz.ntmps173;go_wp2_with fail;go_ret;exact⟨by rw[H1.o,H3.o];rfl,bP.o⟩
theorem JT:(Tryz.prog.info? 3).map (fun i=>(i.zero,i.size,i.bytes))=some (some (.int .i64 0),1,8):=by kernel_rfl
def din(n:Nat):Value:= .int .i64 (n:Int)
def S6(w:World)(v:Value)(l:List Nat):Prop:=DX w v (l.map din)
section
variable {w w':World} {v:Value} {l:List Nat} {B B':Nat}
theorem IC{j:Nat}(hj:j<l.length):(l.map din)[j]? =some (din l[j]):=by
 rw[qaP,qad hj];rfl
theorem S6.open(h:S6 w v l):∃A c,v= .slice A l.length c/\
  (0<l.length->∃b o,A=some ⟨b,o,none⟩/\b<w.heap.size/\∀j (_hj:j<l.length),w.cell? ⟨b,o+j,none⟩=some (.int .i64 ((l.getD j 0:Nat):Int))):=by
 obtain⟨A,c,rfl,h2,h3,h4⟩:=h;rw[qas]at h2 h4;refine⟨A,c,by rw[qas],fun hp=> ?_⟩;obtain⟨b,o,rfl,hlt,hc⟩:=h4 hp;exact⟨b,o,rfl,hlt,fun j hj=>by
  rw[hc j _ (IC hj),qaa,qad hj];rfl⟩
end
def BH(B:Nat)(w:World)(v:Value)(n:Nat)(S:List Nat):Prop:=w.ownsRow B 3 1 v n (S.map din)
def Ez(v u:Value):Prop:=∀g,v.ownBlock=some g->u.ownBlock≠some g
theorem BH.len{B n:Nat}{w:World}{v:Value}{S:List Nat}(h:BH B w v n S):S.length=n:=by
 have:=h.1;rw[qas,qbp]at this;exact this
theorem BH.get{B n g c:Nat}{w:World}{S:List Nat}(h:BH B w (.slice (some ⟨g,0,none⟩) n c) n S)(j:Nat)(hj:j<n):w.cell? ⟨g,j,none⟩=some (.int .i64 ((S.getD j 0:Nat):Int)):=by
 have h1:=h.cellAt j (by omega);have h2:=h.len;rw[h1,qaP,qaa,qad (by omega)];rfl
theorem BH.ext{B n:Nat}{w w':World}{v:Value}{S:List Nat}(h:BH B w v n S)(hx:Ext w w'):BH B w' v n S:=Ah h (fun _ _ hg=>Below.block hx _ hg)
theorem BH.arr{B n:Nat}{w:World}{v:Value}{S:List Nat}(h:BH B w v n S):S6 w v S:=by
 have hl:=h.len;rcases h.2 with ⟨rfl,h2⟩|⟨g,cap,cur,rfl,hb,hg,hc,hm,hs,ht⟩
 ·have:S=[]:=qap (by omega);subst this;exact DX.none_ w
 ·refine⟨_,_,by rw[qas,hl],by rw[qas,hl];exact hc,hm,fun _=>⟨g,0,rfl,?_,fun j u hj=> ?_⟩⟩
  ·rcases qah g w.heap.size with h|h
   ·exact h
   ·rw[qbg h]at hg;cases hg
  ·have qi:j<n:=by
    rcases qah j n with h|h
    ·exact h
    ·rw[qav (by rw[qas];omega)]at hj;cases hj
   rw[qaW,h.cellAt j (by omega),hj]
theorem BH.blt{B n:Nat}{w:World}{v:Value}{S:List Nat}(h:BH B w v n S)(g:Nat)(hg:v.ownBlock=some g):B<=g/\g<w.heap.size:=by
 rcases h.2 with ⟨rfl,h2⟩|⟨g',cap,cur,rfl,hb,hh,_⟩
 ·cases hg
 ·simp only[Value.ownBlock,qar]at hg;subst hg;refine⟨hb,?_⟩;rcases qah g' w.heap.size with h|h
  ·exact h
  ·rw[qbg h]at hh;cases hh
theorem EI {B n m:Nat} {W w':World} {v u:Value} {S D:List Nat} {o:Obj} {g H:Nat} {u':Value} (h4:BH B W v n S) (h5:BH B W u m D) (gc:Ez v u) (hB:B<=W.heap.size)
  (aC:(W.alloc o).grownBy w' v.ownBlock) (hat:v.ownBlock=some g\/g=H) (hH:(W.alloc o).heap.size=H) (hu:u'.ownBlock=some g):BH B w' u m D/\Ez u' u/\Below B W w':=by
 have hs:(W.alloc o).heap.size=W.heap.size+1:=by simp
 refine⟨?_,fun k hk he=> ?_,?_⟩
 ·refine(h5.kept (row:=none) (World.grownBy_alloc W o none) (by cases hv:u.ownBlock<;>simp)).kept aC ?_
  cases hu5:u.ownBlock with
  |none=>exact .inl rfl
  |some k=>exact .inr (fun he=>gc k he.symm hu5)
 ·rw[hu]at hk;injection hk with hk
  subst hk;rcases hat with hat|hat
  ·exact gc g hat he
  ·have:=(h5.blt g he).2;omega
 ·exact Below.grown ((Below.refl B W).alloc hB o) aC (by omega) (fun k hk=>(h4.blt k hk).1)
theorem Ez.symm{v u:Value}(h:Ez v u):Ez u v:=fun g h1 h2=>h g h2 h1
def Q3(l:List Nd)(w:World)(e:Ending)(w':World):Prop:=
 ∃v1 v2,e= .returned (.tuple #[v1,v2])/\Ext w w'/\((Ep l=none/\v1= .slice none 0 0/\v2= .slice none 0 0)\/∃S D,Ep l=some (S,D)/\S.length=l.length/\D.length=l.length/\S6 w' v1 S/\S6 w' v2 D)
structure J4 (l:List Nd) (w:World) (i:Nat) (S D:List Nat) (v u:Value) (wr:World):Prop where
 ok:OD S D
 go:Gd [] [] l=Gd S D (l.drop i)
 r4:BH w.heap.size wr v i S
 r5:BH w.heap.size wr u i D
 apart:Ez v u
 ext:Ext w wr
theorem DW{l:List Nd}{i:Nat}{nd:Nd}(h:l[i]? =some nd):l.drop i=nd::l.drop (i+1):=by
 obtain⟨hi,he⟩:=qaB.1 h;rw[qcq hi,he]
theorem J4.bad{l:List Nd}{w wr:World}{i:Nat}{S D:List Nat}{v u:Value}{nd:Nd}(h:J4 l w i S D v u wr)(hn:l[i]? =some nd)(hs:Bd S D nd=none):Ep l=none:=by
 have h1:=h.go;rw[DW hn,Gd,hs]at h1;unfold Ep;rw[h1]
theorem J4.next {l:List Nd} {w wr w':World} {i s d:Nat} {S D:List Nat} {v u v' u':Value} {nd:Nd} (h:J4 l w i S D v u wr) (hn:l[i]? =some nd) (hs:Bd S D nd=some (s,d))
  (h4:BH w.heap.size w' v' (i+1) (S++[s])) (h5:BH w.heap.size w' u' (i+1) (D++[d])) (gc:Ez v' u') (hx:Ext w w'):J4 l w (i+1) (S++[s]) (D++[d]) v' u' w':=by
 have h1:=h.go;rw[DW hn,Gd,hs]at h1;exact⟨(h.ok.step hs).2.2,h1,h4,h5,gc,hx⟩
section
variable {S D:List Nat} {k a b n:Int} {t:List UInt8}
theorem Nu(h:Az k= -1):Bd S D ⟨k,a,b,n,t⟩=none:=by
 unfold Bd;rw[if_pos (.inl (by simp only[h];decide))]
theorem EX(h:AA ⟨k,a,b,n,t⟩=false):Bd S D ⟨k,a,b,n,t⟩=none:=by
 unfold Bd;rw[if_pos (.inr (.inl h))]
theorem Rj(h:Az k=0)(h2:a≠0):Bd S D ⟨k,a,b,n,t⟩=none:=by
 unfold Bd;rw[if_pos (.inr (.inr (.inl ⟨by simp only[h];decide,h2⟩)))]
theorem L1(h:Az k<2)(h2:b≠0):Bd S D ⟨k,a,b,n,t⟩=none:=by
 unfold Bd;rw[if_pos (.inr (.inr (.inr ⟨h,h2⟩)))]
theorem Rm(h:Az k=0)(hp:AA ⟨k,0,0,n,t⟩=true):Bd S D ⟨k,0,0,n,t⟩=some (1,1):=by
 unfold Bd;rw[hp];simp only[h];simp
theorem Rl(h:Az k=1)(hp:AA ⟨k,a,0,n,t⟩=true)(ha:a=(S.length:Int)-1)(h0:0<=a):Bd S D ⟨k,a,0,n,t⟩=some (S.getD a.toNat 0+1,D.getD a.toNat 0+1):=by
 unfold Bd;rw[hp];simp only[h];rw[if_neg (by simp),if_neg (by decide),if_pos trivial,if_neg (by omega),Nat.max_eq_right (by omega)]
theorem Ik(h:Az k=1)(ha:a≠(S.length:Int)-1\/a<0):Bd S D ⟨k,a,b,n,t⟩=none:=by
 unfold Bd;simp only[h];split
 ·rfl
 ·simp
theorem Ij(h:Az k=2)(ha:b≠(S.length:Int)-1\/b<0):Bd S D ⟨k,a,b,n,t⟩=none:=by
 unfold Bd;simp only[h];split
 ·rfl
 ·simp
theorem Le(h:Az k=2)(ha:a≠(S.length:Int)-((S.getD b.toNat 0+1:Nat):Int)\/a<0):Bd S D ⟨k,a,b,n,t⟩=none:=by
 unfold Bd;simp only[h];split
 ·rfl
 ·simp only[Int.reduceEq,if_false];split
  ·rfl
  ·first|rfl|simp[ha]
theorem Rk(h:Az k=2)(hp:AA ⟨k,a,b,n,t⟩=true)(hb:b=(S.length:Int)-1)(hb0:0<=b)(ha:a=(S.length:Int)-((S.getD b.toNat 0+1:Nat):Int))(h0:0<=a):
  Bd S D ⟨k,a,b,n,t⟩=some (S.getD b.toNat 0+1+S.getD a.toNat 0,max (D.getD b.toNat 0+1) (D.getD a.toNat 0+1)):=by
 unfold Bd;rw[hp];simp only[h];rw[if_neg (by simp),if_neg (by decide),if_neg (by decide),if_neg (by omega),if_neg (by omega),Nat.max_eq_right (a:=1) (by omega)]
end
theorem FA(k:Int):Az k= -1\/Az k=0\/Az k=1\/Az k=2:=by
 unfold Az
 repeat' split
 all_goals simp
theorem Pu(w:World)(v:Value)(l:List Nd)(hr:RNd w v l)(hl:l.length<=1000000)(nW:∀x∈l,x.text.length<=1073741824):Calls Tryz.prog 131 #[v] w (Q3 l w):=by
 have HR:=J hr;have nD:=J nW;obtain⟨i0,hi,aD,hz1,bu⟩:=info_parts JT;obtain⟨A,c,rfl,_⟩:=hr;clear nW;have bF:Hid (J4 l w 0 [] [] (.slice none 0 0) (.slice none 0 0) w):=J ⟨OD.nil,rfl,⟨rfl,.inl ⟨rfl,rfl⟩⟩,⟨rfl,.inl ⟨rfl,rfl⟩⟩,(fun g h=>by cases h),Ext.refl w⟩;obtain⟨n,hn⟩:∃n,n=l.length:=⟨_,rfl⟩;have HN:=J hn;rw[<-hn]at hl ⊢;clear hn;go_enter Tryz.func131,Tryz.ntmps131;go_wp2_with fail;go_loopw [4,5,14] (fun s4 s5 s14 wr=>∃(i:Nat) (S D:List Nat),i<=n/\s14= .int .i64 (i:Int)/\J4 l w i S D s4 s5 wr) (fun _ _ s14 _=>n-(intOf s14).toNat)
 case atStart=>exact⟨0,[],[],qaj _,rfl,bF.o⟩
 case round=>
  obtain⟨i,S,D,hin,rfl,a9⟩:=hrel;have HI:=J a9;obtain⟨A4,c4,rfl⟩:=Aw a9.r4;obtain⟨A5,c5,rfl⟩:=Aw a9.r5;clear bF;by_cases hlt:i<n
  ·have kH:i<l.length:=by rw[<-HN.o];exact hlt
   have HIL:=J kH;obtain⟨A',c',he,hc⟩:=HR.o.ext a9.ext;obtain⟨b,o,V6,hb,hc⟩:=hc (by omega);obtain⟨nd,hnd,hat,jk⟩:∃nd,l[i]? =some nd/\OG wr b (o+i*5) nd/\nd.text.length<=1073741824:=⟨l[i],qad kH,hc i kH,nD.o _ (qaw kH)⟩
   injection he with he1 he2 he3
   subst he1;clear he2 he3;subst V6;have aF:Hid (Bd S D nd=none->Ep l=none):=J (fun h=>a9.bad hnd h);have dl:=J hnd;clear hnd hc;have hw:wr.heap.size>=w.heap.size:=a9.ext.size;have HX:=J a9.ext;have kA:=a9.r4.len;have ql:=a9.r5.len;have mX:=J kA;have HDL:=J ql;have zr:=a9.ok.size;have VD:=a9.ok.depth;rw[kA]at zr VD;have WG:=J zr;have Xh:=J VD;have dT:=J a9.r4;have dr:=J a9.r5;clear a9 kH kA ql zr VD;obtain⟨kd,na,nb,nn,nt⟩:=nd;have cI:=J (fun W=>KM W ⟨kd,na,nb,nn,nt⟩ jk);simp only[ndV]at cI;obtain⟨k0,k1,k2,k3,k4⟩:=hat;simp only at k0 k1 k2 k3 k4;obtain⟨s,hs⟩:∃s:ByteArray,s=⟨nt.toArray⟩:=⟨_,rfl⟩;have hst:str nt= .string s:=by rw[hs];rfl
   rw[hst]at cI k4;clear hs hst jk;have aS:=J (fun W=>Bv W kd);have key:=FA kd;have hpk:∃p,p=AA ⟨kd,na,nb,nn,nt⟩:=⟨_,rfl⟩;obtain⟨p,hp⟩:=hpk;rw[<-hp]at cI;have hb0:=Blk.new wr 95 #[.int .i64 kd,.int .i64 na,.int .i64 nb,.int .i64 nn,.string s];have bq:=J ((Ext.refl wr).alloc (.cells #[.int .i64 kd,.int .i64 na,.int .i64 nb,.int .i64 nn,.string s] 95));have dV:=J hb0;have q0:=hb0.five;clear hb0;rcases key with aJ|aJ|aJ|aJ
   ·have cC:=J (aF.o (Nu aJ));rw[aJ]at aS;clear aJ hp aF;go_wp2_with fail;refine(aS.o _).mono ?_
    rintro e w2 ⟨rfl,rfl⟩;go_wp2_with fail;go_ret2;exact⟨_,_,rfl,HX.o.trans bq.o,.inl ⟨cC.o,rfl,rfl⟩⟩
   ·cases hpb:p
    ·rw[hpb]at hp cI;clear hpb;have cC:=J (aF.o (EX hp.symm));rw[aJ]at aS;clear aJ hp aF;go_wp2_with fail;refine(aS.o _).mono ?_
     rintro e w2 ⟨rfl,rfl⟩;go_wp2_with fail;refine(cI.o _).mono ?_
     rintro e w3 ⟨rfl,ab⟩;have dj:=J (HX.o.trans (bq.o.trans ab));have be:=J (dV.o.ext ab);have q0:=be.o.five;have ex:=J (dT.o.ext (bq.o.trans ab));have iR:=J (dr.o.ext (bq.o.trans ab));have ea:w.heap.size<=w3.heap.size:=dj.o.size;clear ab;go_wp2_with fail;go_ret2;exact⟨_,_,rfl,dj.o,.inl ⟨cC.o,rfl,rfl⟩⟩
    ·rw[hpb]at hp cI;clear hpb;by_cases ha:na=0
     ·subst ha;by_cases hb:nb=0
      ·subst hb;have jW:Hid (Bd S D ⟨kd,0,0,nn,nt⟩=some (1,1)):=J (Rm aJ hp.symm);rw[aJ]at aS;clear aJ hp;go_wp2_with fail;refine(aS.o _).mono ?_
       rintro e w2 ⟨rfl,rfl⟩;go_wp2_with fail;refine(cI.o _).mono ?_
       rintro e w3 ⟨rfl,ab⟩;have dj:=J (HX.o.trans (bq.o.trans ab));have be:=J (dV.o.ext ab);have q0:=be.o.five;have ex:=J (dT.o.ext (bq.o.trans ab));have iR:=J (dr.o.ext (bq.o.trans ab));have ea:w.heap.size<=w3.heap.size:=dj.o.size;clear ab;have dk:=J (jW.o);have bN:Hid (i+1<=maxLen):=J (by unfold maxLen;omega);have bM:Hid ((i+1)*8<=140737488355328):=J (by omega);have fE:Hid ((w3.alloc (.cells #[.int .i64 1] 3)).ownsRow w.heap.size 3 1 (.slice A4 i c4) i (S.map din)):=J (Ah ex.o (fun k _ hk=>Below.heap_alloc _ _ k hk));have dK:=J (Cd w3 3 [.int .i64 1]);have cD:Hid (w.heap.size<=(w3.alloc (.cells #[.int .i64 1] 3)).heap.size):=J (by simp;omega);clear aF;go_wp2_with (at_builtin;first|(refine wpList_append_lies _ rfl _ _ 41 rfl w.heap.size 3 i0 _ 1 8 Tryz.underlying41 hi aD hz1 bu rfl (by decide) (.slice A4 i c4) i (S.map din) rfl fE.o ⟨w3.heap.size,0,none⟩ 1 1 [.int .i64 1] rfl rfl dK.o (by simp[Value.oneCell']) (by decide) bN.o bM.o cD.o _ rfl ?_;intro g6 c6 w6 bw cG cP gV;have cQ:=J (EI (u':= .slice (some ⟨g6,0,none⟩) (i+1) c6) ex.o iR.o (HI.o.apart) ea cG cP rfl rfl);have hU:Hid (BH w.heap.size w6 (.slice (some ⟨g6,0,none⟩) (i+1) c6) (i+1) (S++[1])):=J (by unfold BH;rw[qbc];exact bw);have eb:w.heap.size<=w6.heap.size:=qae ea cQ.o.2.2.size;clear bw cG cP;have o8:Hid ((w6.alloc (.cells #[.int .i64 1] 3)).ownsRow w.heap.size 3 1 (.slice A5 i c5) i (D.map din)):=J (Ah cQ.o.1 (fun k _ hk=>Below.heap_alloc _ _ k hk));have gg:=J (Cd w6 3 [.int .i64 1]);have pz:Hid (w.heap.size<=(w6.alloc (.cells #[.int .i64 1] 3)).heap.size):=J (by simp;omega))|(refine wpList_append_lies _ rfl _ _ 41 rfl w.heap.size 3 i0 _ 1 8 Tryz.underlying41 hi aD hz1 bu rfl (by decide) (.slice A5 i c5) i (D.map din) rfl o8.o ⟨w6.heap.size,0,none⟩ 1 1 [.int .i64 1] rfl rfl gg.o (by simp[Value.oneCell']) (by decide) bN.o bM.o pz.o _ rfl ?_;intro g7 c7 w7 a5 dh dS mP;have dq:=J (EI (u':= .slice (some ⟨g7,0,none⟩) (i+1) c7) cQ.o.1 hU.o (cQ.o.2.1.symm) eb dh dS rfl rfl);have m7:Hid (BH w.heap.size w7 (.slice (some ⟨g7,0,none⟩) (i+1) c7) (i+1) (D++[1])):=J (by unfold BH;rw[qbc];exact a5);clear a5 dh dS));go_wp2_with fail;go_roundw
       case rel=>exact⟨i+1,_,_,by omega,by go_num,HI.o.next dl.o dk.o dq.o.1 m7.o dq.o.2.1.symm (dj.o.more (cQ.o.2.2.trans dq.o.2.2))⟩
       case measure=>simp[intOf];omega
      ·have dR:(nb != 0)=true:=by rw[bne_iff_ne];exact hb
       have cC:=J (aF.o (L1 (by omega) hb));rw[aJ]at aS;clear aJ hp aF hb;go_wp2_with fail;refine(aS.o _).mono ?_
       rintro e w2 ⟨rfl,rfl⟩;go_wp2_with fail;refine(cI.o _).mono ?_
       rintro e w3 ⟨rfl,ab⟩;have dj:=J (HX.o.trans (bq.o.trans ab));have be:=J (dV.o.ext ab);have q0:=be.o.five;have ex:=J (dT.o.ext (bq.o.trans ab));have iR:=J (dr.o.ext (bq.o.trans ab));have ea:w.heap.size<=w3.heap.size:=dj.o.size;clear ab;go_wp2_with fail;go_ret2;exact⟨_,_,rfl,dj.o,.inl ⟨cC.o,rfl,rfl⟩⟩
     ·have VV:(na != 0)=true:=by rw[bne_iff_ne];exact ha
      have cC:=J (aF.o (Rj aJ ha));rw[aJ]at aS;clear aJ hp aF ha;go_wp2_with fail;refine(aS.o _).mono ?_
      rintro e w2 ⟨rfl,rfl⟩;go_wp2_with fail;refine(cI.o _).mono ?_
      rintro e w3 ⟨rfl,ab⟩;have dj:=J (HX.o.trans (bq.o.trans ab));have be:=J (dV.o.ext ab);have q0:=be.o.five;have ex:=J (dT.o.ext (bq.o.trans ab));have iR:=J (dr.o.ext (bq.o.trans ab));have ea:w.heap.size<=w3.heap.size:=dj.o.size;clear ab;go_wp2_with fail;go_ret2;exact⟨_,_,rfl,dj.o,.inl ⟨cC.o,rfl,rfl⟩⟩
   ·cases hpb:p
    ·rw[hpb]at hp cI;clear hpb;have cC:=J (aF.o (EX hp.symm));rw[aJ]at aS;clear aJ hp aF;go_wp2_with fail;refine(aS.o _).mono ?_
     rintro e w2 ⟨rfl,rfl⟩;go_wp2_with fail;refine(cI.o _).mono ?_
     rintro e w3 ⟨rfl,ab⟩;have dj:=J (HX.o.trans (bq.o.trans ab));have be:=J (dV.o.ext ab);have q0:=be.o.five;have ex:=J (dT.o.ext (bq.o.trans ab));have iR:=J (dr.o.ext (bq.o.trans ab));have ea:w.heap.size<=w3.heap.size:=dj.o.size;clear ab;go_wp2_with fail;go_ret2;exact⟨_,_,rfl,dj.o,.inl ⟨cC.o,rfl,rfl⟩⟩
    ·rw[hpb]at hp cI;clear hpb;by_cases hb:nb=0
     ·subst hb;have p7:IntKind.i64.wrap ((i:Int)-1)=(i:Int)-1:=IntWalk.i64_in _ (by omega);by_cases hz:na=(i:Int)-1
      ·by_cases hz0':na<0
       ·have fg:(na != (i:Int)-1)=false:=by rw[hz];simp
        have u7:decide (na<0)=true:=decide_eq_true hz0';have cC:=J (aF.o (Ik aJ (.inr hz0')));rw[aJ]at aS;clear aJ hp aF hz;go_wp2_with fail;refine(aS.o _).mono ?_
        rintro e w2 ⟨rfl,rfl⟩;go_wp2_with fail;refine(cI.o _).mono ?_
        rintro e w3 ⟨rfl,ab⟩;have dj:=J (HX.o.trans (bq.o.trans ab));have be:=J (dV.o.ext ab);have q0:=be.o.five;have ex:=J (dT.o.ext (bq.o.trans ab));have iR:=J (dr.o.ext (bq.o.trans ab));have ea:w.heap.size<=w3.heap.size:=dj.o.size;clear ab;go_wp2_with fail;go_ret2;exact⟨_,_,rfl,dj.o,.inl ⟨cC.o,rfl,rfl⟩⟩
       ·have iw:0<=na:=by omega
        have fg:(na != (i:Int)-1)=false:=by rw[hz];simp
        have u7:decide (na<0)=false:=decide_eq_false hz0';have kG:0<i:=by omega
        obtain⟨g4,d4,gF,VP,zU⟩:=dT.o.form kG;injection gF with gF _ he5
        subst gF;subst he5;obtain⟨g5,d5,gF,sX,sB⟩:=dr.o.form kG;injection gF with gF _ he5
        subst gF;subst he5;have nP:na.toNat<i:=by omega
        have uf:Hid (∀W,BH w.heap.size W (.slice (some ⟨g4,0,none⟩) i c4) i S->W.cell? ⟨g4,na.toNat,none⟩=some (.int .i64 ((S.getD na.toNat 0:Nat):Int))):=J (fun W h=>h.get _ nP);have rA:Hid (∀W,BH w.heap.size W (.slice (some ⟨g5,0,none⟩) i c5) i D->W.cell? ⟨g5,na.toNat,none⟩=some (.int .i64 ((D.getD na.toNat 0:Nat):Int))):=J (fun W h=>h.get _ nP);have hsb:=WG.o na.toNat nP;have uI:=Xh.o na.toNat nP;have nR:na<(i:Int):=by omega
        have jW:Hid (Bd S D ⟨kd,na,0,nn,nt⟩=some (S.getD na.toNat 0+1,D.getD na.toNat 0+1)):=J (Rl aJ hp.symm (by rw[mX.o];exact hz) iw);generalize S.getD na.toNat 0=sv at *;generalize D.getD na.toNat 0=dv at *;have aT:IntKind.i64.wrap (1+(sv:Int))=((sv+1:Nat):Int):=by rw[IntWalk.i64_in _ (by omega)];omega
        have bQ:IntKind.i64.wrap ((dv:Int)+1)=((dv+1:Nat):Int):=by rw[IntWalk.i64_in _ (by omega)];omega
        have eA:max (1:Int) ((dv+1:Nat):Int)=((dv+1:Nat):Int):=by omega
        obtain⟨s1,cB⟩:∃s1,s1=sv+1:=⟨_,rfl⟩;obtain⟨d1,dJ⟩:∃d1,d1=dv+1:=⟨_,rfl⟩;rw[<-cB]at aT jW;rw[<-dJ]at bQ eA jW;have zx:s1<=1000001:=by omega
        have VG:d1<=1000001:=by omega
        rw[aJ]at aS;clear aJ hp hz cB dJ hsb uI;go_wp2_with fail;refine(aS.o _).mono ?_
        rintro e w2 ⟨rfl,rfl⟩;go_wp2_with fail;refine(cI.o _).mono ?_
        rintro e w3 ⟨rfl,ab⟩;have dj:=J (HX.o.trans (bq.o.trans ab));have be:=J (dV.o.ext ab);have q0:=be.o.five;have ex:=J (dT.o.ext (bq.o.trans ab));have iR:=J (dr.o.ext (bq.o.trans ab));have ea:w.heap.size<=w3.heap.size:=dj.o.size;clear ab;have ew:=uf.o w3 ex.o;have dg:=rA.o w3 iR.o;go_upto_region 15 with fail;go_region
        all_goals
         obtain⟨w8,eN⟩:∃w8,w8=w3.drew:=⟨_,rfl⟩;rw[<-eN];have eg:Hid (Ext w3 w8):=J (by rw[eN];exact(Ext.refl w3).drew);have iQ:=J (dj.o.trans eg.o);have kU:=J (be.o.ext eg.o);have q0:=kU.o.five;have lX:=J (ex.o.ext eg.o);have nh:=J (iR.o.ext eg.o);have ou:w.heap.size<=w8.heap.size:=iQ.o.size;clear eN;have dk:=J (jW.o);have bN:Hid (i+1<=maxLen):=J (by unfold maxLen;omega);have bM:Hid ((i+1)*8<=140737488355328):=J (by omega);have fE:Hid ((w8.alloc (.cells #[.int .i64 ((s1:Nat):Int)] 3)).ownsRow w.heap.size 3 1 (.slice (some ⟨g4,0,none⟩) i c4) i (S.map din)):=J (Ah lX.o (fun k _ hk=>Below.heap_alloc _ _ k hk));have dK:=J (Cd w8 3 [.int .i64 ((s1:Nat):Int)]);have cD:Hid (w.heap.size<=(w8.alloc (.cells #[.int .i64 ((s1:Nat):Int)] 3)).heap.size):=J (by simp;omega);go_wp2_with (at_builtin;first|(refine wpList_append_lies _ rfl _ _ 41 rfl w.heap.size 3 i0 _ 1 8 Tryz.underlying41 hi aD hz1 bu rfl (by decide) (.slice (some ⟨g4,0,none⟩) i c4) i (S.map din) rfl fE.o ⟨w8.heap.size,0,none⟩ 1 1 [.int .i64 ((s1:Nat):Int)] rfl rfl dK.o (by simp[Value.oneCell']) (by decide) bN.o bM.o cD.o _ rfl ?_;intro g6 c6 w6 bw cG cP gV;have cQ:=J (EI (u':= .slice (some ⟨g6,0,none⟩) (i+1) c6) lX.o nh.o (HI.o.apart) ou cG cP rfl rfl);have hU:Hid (BH w.heap.size w6 (.slice (some ⟨g6,0,none⟩) (i+1) c6) (i+1) (S++[s1])):=J (by unfold BH;rw[qbc];exact bw);have eb:w.heap.size<=w6.heap.size:=qae ou cQ.o.2.2.size;clear bw cG cP;have o8:Hid ((w6.alloc (.cells #[.int .i64 ((d1:Nat):Int)] 3)).ownsRow w.heap.size 3 1 (.slice (some ⟨g5,0,none⟩) i c5) i (D.map din)):=J (Ah cQ.o.1 (fun k _ hk=>Below.heap_alloc _ _ k hk));have gg:=J (Cd w6 3 [.int .i64 ((d1:Nat):Int)]);have pz:Hid (w.heap.size<=(w6.alloc (.cells #[.int .i64 ((d1:Nat):Int)] 3)).heap.size):=J (by simp;omega))|(refine wpList_append_lies _ rfl _ _ 41 rfl w.heap.size 3 i0 _ 1 8 Tryz.underlying41 hi aD hz1 bu rfl (by decide) (.slice (some ⟨g5,0,none⟩) i c5) i (D.map din) rfl o8.o ⟨w6.heap.size,0,none⟩ 1 1 [.int .i64 ((d1:Nat):Int)] rfl rfl gg.o (by simp[Value.oneCell']) (by decide) bN.o bM.o pz.o _ rfl ?_;intro g7 c7 w7 a5 dh dS mP;have dq:=J (EI (u':= .slice (some ⟨g7,0,none⟩) (i+1) c7) cQ.o.1 hU.o (cQ.o.2.1.symm) eb dh dS rfl rfl);have m7:Hid (BH w.heap.size w7 (.slice (some ⟨g7,0,none⟩) (i+1) c7) (i+1) (D++[d1])):=J (by unfold BH;rw[qbc];exact a5);clear a5 dh dS));go_wp2_with fail;go_roundw
         case rel=>exact⟨i+1,_,_,by omega,by go_num,HI.o.next dl.o dk.o dq.o.1 m7.o dq.o.2.1.symm (iQ.o.more (cQ.o.2.2.trans dq.o.2.2))⟩
         case measure=>simp[intOf];omega
      ·have fg:(na != (i:Int)-1)=true:=by rw[bne_iff_ne];exact hz
       have cC:=J (aF.o (Ik aJ (.inl (by rw[mX.o];exact hz))));rw[aJ]at aS;clear aJ hp aF hz;go_wp2_with fail;refine(aS.o _).mono ?_
       rintro e w2 ⟨rfl,rfl⟩;go_wp2_with fail;refine(cI.o _).mono ?_
       rintro e w3 ⟨rfl,ab⟩;have dj:=J (HX.o.trans (bq.o.trans ab));have be:=J (dV.o.ext ab);have q0:=be.o.five;have ex:=J (dT.o.ext (bq.o.trans ab));have iR:=J (dr.o.ext (bq.o.trans ab));have ea:w.heap.size<=w3.heap.size:=dj.o.size;clear ab;go_wp2_with fail;go_ret2;exact⟨_,_,rfl,dj.o,.inl ⟨cC.o,rfl,rfl⟩⟩
     ·have dR:(nb != 0)=true:=by rw[bne_iff_ne];exact hb
      have cC:=J (aF.o (L1 (by omega) hb));rw[aJ]at aS;clear aJ hp aF hb;go_wp2_with fail;refine(aS.o _).mono ?_
      rintro e w2 ⟨rfl,rfl⟩;go_wp2_with fail;refine(cI.o _).mono ?_
      rintro e w3 ⟨rfl,ab⟩;have dj:=J (HX.o.trans (bq.o.trans ab));have be:=J (dV.o.ext ab);have q0:=be.o.five;have ex:=J (dT.o.ext (bq.o.trans ab));have iR:=J (dr.o.ext (bq.o.trans ab));have ea:w.heap.size<=w3.heap.size:=dj.o.size;clear ab;go_wp2_with fail;go_ret2;exact⟨_,_,rfl,dj.o,.inl ⟨cC.o,rfl,rfl⟩⟩
   ·cases hpb:p
    ·rw[hpb]at hp cI;clear hpb;have cC:=J (aF.o (EX hp.symm));rw[aJ]at aS;clear aJ hp aF;go_wp2_with fail;refine(aS.o _).mono ?_
     rintro e w2 ⟨rfl,rfl⟩;go_wp2_with fail;refine(cI.o _).mono ?_
     rintro e w3 ⟨rfl,ab⟩;have dj:=J (HX.o.trans (bq.o.trans ab));have be:=J (dV.o.ext ab);have q0:=be.o.five;have ex:=J (dT.o.ext (bq.o.trans ab));have iR:=J (dr.o.ext (bq.o.trans ab));have ea:w.heap.size<=w3.heap.size:=dj.o.size;clear ab;go_wp2_with fail;go_ret2;exact⟨_,_,rfl,dj.o,.inl ⟨cC.o,rfl,rfl⟩⟩
    ·rw[hpb]at hp cI;clear hpb;have p7:IntKind.i64.wrap ((i:Int)-1)=(i:Int)-1:=IntWalk.i64_in _ (by omega);by_cases hz:nb=(i:Int)-1
     ·by_cases hz0':nb<0
      ·have fg:(nb != (i:Int)-1)=false:=by rw[hz];simp
       have u7:decide (nb<0)=true:=decide_eq_true hz0';have cC:=J (aF.o (Ij aJ (.inr hz0')));rw[aJ]at aS;clear aJ hp aF hz;go_wp2_with fail;refine(aS.o _).mono ?_
       rintro e w2 ⟨rfl,rfl⟩;go_wp2_with fail;refine(cI.o _).mono ?_
       rintro e w3 ⟨rfl,ab⟩;have dj:=J (HX.o.trans (bq.o.trans ab));have be:=J (dV.o.ext ab);have q0:=be.o.five;have ex:=J (dT.o.ext (bq.o.trans ab));have iR:=J (dr.o.ext (bq.o.trans ab));have ea:w.heap.size<=w3.heap.size:=dj.o.size;clear ab;go_wp2_with fail;go_ret2;exact⟨_,_,rfl,dj.o,.inl ⟨cC.o,rfl,rfl⟩⟩
      ·have iw:0<=nb:=by omega
       have fg:(nb != (i:Int)-1)=false:=by rw[hz];simp
       have u7:decide (nb<0)=false:=decide_eq_false hz0';have kG:0<i:=by omega
       obtain⟨g4,d4,gF,VP,zU⟩:=dT.o.form kG;injection gF with gF _ he5
       subst gF;subst he5;obtain⟨g5,d5,gF,sX,sB⟩:=dr.o.form kG;injection gF with gF _ he5
       subst gF;subst he5;have nP:nb.toNat<i:=by omega
       have uf:Hid (∀W,BH w.heap.size W (.slice (some ⟨g4,0,none⟩) i c4) i S->W.cell? ⟨g4,nb.toNat,none⟩=some (.int .i64 ((S.getD nb.toNat 0:Nat):Int))):=J (fun W h=>h.get _ nP);have rA:Hid (∀W,BH w.heap.size W (.slice (some ⟨g5,0,none⟩) i c5) i D->W.cell? ⟨g5,nb.toNat,none⟩=some (.int .i64 ((D.getD nb.toNat 0:Nat):Int))):=J (fun W h=>h.get _ nP);have hsb:=WG.o nb.toNat nP;have uI:=Xh.o nb.toNat nP;have nR:nb<(i:Int):=by omega
       have jW:Hid (∀q:na=(i:Int)-((S.getD nb.toNat 0+1:Nat):Int),0<=na->Bd S D ⟨kd,na,nb,nn,nt⟩=some (S.getD nb.toNat 0+1+S.getD na.toNat 0,max (D.getD nb.toNat 0+1) (D.getD na.toNat 0+1))):=J (fun q h=>Rk aJ hp.symm (by rw[mX.o];exact hz) iw (by rw[mX.o];exact q) h);have lQ:Hid (na≠(i:Int)-((S.getD nb.toNat 0+1:Nat):Int)\/na<0->Ep l=none):=J (fun h=>aF.o (Le aJ (by rw[mX.o];exact h)));have ld:∀q:na=(i:Int)-((S.getD nb.toNat 0+1:Nat):Int),0<=na->na.toNat<i:=fun q h=>by omega
       generalize S.getD nb.toNat 0=sv at *;generalize D.getD nb.toNat 0=dv at *;have aT:IntKind.i64.wrap (1+(sv:Int))=((sv+1:Nat):Int):=by rw[IntWalk.i64_in _ (by omega)];omega
       have bQ:IntKind.i64.wrap ((dv:Int)+1)=((dv+1:Nat):Int):=by rw[IntWalk.i64_in _ (by omega)];omega
       have eA:max (1:Int) ((dv+1:Nat):Int)=((dv+1:Nat):Int):=by omega
       obtain⟨s1,cB⟩:∃s1,s1=sv+1:=⟨_,rfl⟩;obtain⟨d1,dJ⟩:∃d1,d1=dv+1:=⟨_,rfl⟩;rw[<-cB]at aT jW lQ ld;rw[<-dJ]at bQ eA jW;have zx:s1<=1000001:=by omega
       have VG:d1<=1000001:=by omega
       have fQ:IntKind.i64.wrap ((i:Int)-(s1:Int))=(i:Int)-(s1:Int):=IntWalk.i64_in _ (by omega);rw[aJ]at aS;clear aJ hp hz cB dJ hsb uI aF;by_cases hy:na=(i:Int)-(s1:Int)
       ·by_cases hy0:na<0
        ·have XE:(na != (i:Int)-(s1:Int))=false:=by rw[hy];simp
         have Z2:decide (na<0)=true:=decide_eq_true hy0;have cC:=J (lQ.o (.inr hy0));clear ld hy lQ jW;go_wp2_with fail;refine(aS.o _).mono ?_
         rintro e w2 ⟨rfl,rfl⟩;go_wp2_with fail;refine(cI.o _).mono ?_
         rintro e w3 ⟨rfl,ab⟩;have dj:=J (HX.o.trans (bq.o.trans ab));have be:=J (dV.o.ext ab);have q0:=be.o.five;have ex:=J (dT.o.ext (bq.o.trans ab));have iR:=J (dr.o.ext (bq.o.trans ab));have ea:w.heap.size<=w3.heap.size:=dj.o.size;clear ab;have ew:=uf.o w3 ex.o;have dg:=rA.o w3 iR.o;go_upto_region 15 with fail;go_region
         all_goals
          obtain⟨w8,eN⟩:∃w8,w8=w3.drew:=⟨_,rfl⟩;rw[<-eN];have eg:Hid (Ext w3 w8):=J (by rw[eN];exact(Ext.refl w3).drew);have iQ:=J (dj.o.trans eg.o);have kU:=J (be.o.ext eg.o);have q0:=kU.o.five;have lX:=J (ex.o.ext eg.o);have nh:=J (iR.o.ext eg.o);have ou:w.heap.size<=w8.heap.size:=iQ.o.size;clear eN;go_wp2_with fail;go_ret2;exact⟨_,_,rfl,iQ.o,.inl ⟨cC.o,rfl,rfl⟩⟩
        ·have p6:0<=na:=by omega
         have XE:(na != (i:Int)-(s1:Int))=false:=by rw[hy];simp
         have Z2:decide (na<0)=false:=decide_eq_false hy0;have mG:=ld hy p6;have iu:=J (jW.o hy p6);have HH4:Hid (∀W,BH w.heap.size W (.slice (some ⟨g4,0,none⟩) i c4) i S->W.cell? ⟨g4,na.toNat,none⟩=some (.int .i64 ((S.getD na.toNat 0:Nat):Int))):=J (fun W h=>h.get _ mG);have HH5:Hid (∀W,BH w.heap.size W (.slice (some ⟨g5,0,none⟩) i c5) i D->W.cell? ⟨g5,na.toNat,none⟩=some (.int .i64 ((D.getD na.toNat 0:Nat):Int))):=J (fun W h=>h.get _ mG);have hsb:=WG.o na.toNat mG;have uI:=Xh.o na.toNat mG;have Z3:na<(i:Int):=by omega
         generalize S.getD na.toNat 0=sa at *;generalize D.getD na.toNat 0=da at *;have hw4:IntKind.i64.wrap ((s1:Int)+(sa:Int))=((s1+sa:Nat):Int):=by rw[IntWalk.i64_in _ (by omega)];omega
         have eS:IntKind.i64.wrap ((da:Int)+1)=((da+1:Nat):Int):=by rw[IntWalk.i64_in _ (by omega)];omega
         have X1:max (d1:Int) ((da+1:Nat):Int)=((max d1 (da+1):Nat):Int):=by omega
         obtain⟨s2,jI⟩:∃s2,s2=s1+sa:=⟨_,rfl⟩;obtain⟨d2,eH⟩:∃d2,d2=da+1:=⟨_,rfl⟩;rw[<-jI]at hw4 iu;rw[<-eH]at eS X1 iu;obtain⟨d3,VF⟩:∃d3,d3=max d1 d2:=⟨_,rfl⟩;rw[<-VF]at X1 iu;clear ld hy lQ jW mG jI eH VF hsb uI;go_wp2_with fail;refine(aS.o _).mono ?_
         rintro e w2 ⟨rfl,rfl⟩;go_wp2_with fail;refine(cI.o _).mono ?_
         rintro e w3 ⟨rfl,ab⟩;have dj:=J (HX.o.trans (bq.o.trans ab));have be:=J (dV.o.ext ab);have q0:=be.o.five;have ex:=J (dT.o.ext (bq.o.trans ab));have iR:=J (dr.o.ext (bq.o.trans ab));have ea:w.heap.size<=w3.heap.size:=dj.o.size;clear ab;have ew:=uf.o w3 ex.o;have dg:=rA.o w3 iR.o;go_upto_region 15 with fail;go_region
         all_goals
          obtain⟨w8,eN⟩:∃w8,w8=w3.drew:=⟨_,rfl⟩;rw[<-eN];have eg:Hid (Ext w3 w8):=J (by rw[eN];exact(Ext.refl w3).drew);have iQ:=J (dj.o.trans eg.o);have kU:=J (be.o.ext eg.o);have q0:=kU.o.five;have lX:=J (ex.o.ext eg.o);have nh:=J (iR.o.ext eg.o);have ou:w.heap.size<=w8.heap.size:=iQ.o.size;clear eN;have jJ:=HH4.o w8 lX.o;have qb:=HH5.o w8 nh.o;go_upto_region 19 with fail;go_region
          all_goals
           obtain⟨w9,zl⟩:∃w9,w9=w8.drew:=⟨_,rfl⟩;rw[<-zl];have qH:Hid (Ext w8 w9):=J (by rw[zl];exact(Ext.refl w8).drew);have xj:=J (iQ.o.trans qH.o);have Xm:=J (kU.o.ext qH.o);have q0:=Xm.o.five;have xJ:=J (lX.o.ext qH.o);have Xb:=J (nh.o.ext qH.o);have wn:w.heap.size<=w9.heap.size:=xj.o.size;clear zl;have dk:=J (iu.o);have bN:Hid (i+1<=maxLen):=J (by unfold maxLen;omega);have bM:Hid ((i+1)*8<=140737488355328):=J (by omega);have fE:Hid ((w9.alloc (.cells #[.int .i64 ((s2:Nat):Int)] 3)).ownsRow w.heap.size 3 1 (.slice (some ⟨g4,0,none⟩) i c4) i (S.map din)):=J (Ah xJ.o (fun k _ hk=>Below.heap_alloc _ _ k hk));have dK:=J (Cd w9 3 [.int .i64 ((s2:Nat):Int)]);have cD:Hid (w.heap.size<=(w9.alloc (.cells #[.int .i64 ((s2:Nat):Int)] 3)).heap.size):=J (by simp;omega);go_wp2_with (at_builtin;first|(refine wpList_append_lies _ rfl _ _ 41 rfl w.heap.size 3 i0 _ 1 8 Tryz.underlying41 hi aD hz1 bu rfl (by decide) (.slice (some ⟨g4,0,none⟩) i c4) i (S.map din) rfl fE.o ⟨w9.heap.size,0,none⟩ 1 1 [.int .i64 ((s2:Nat):Int)] rfl rfl dK.o (by simp[Value.oneCell']) (by decide) bN.o bM.o cD.o _ rfl ?_;intro g6 c6 w6 bw cG cP gV;have cQ:=J (EI (u':= .slice (some ⟨g6,0,none⟩) (i+1) c6) xJ.o Xb.o (HI.o.apart) wn cG cP rfl rfl);have hU:Hid (BH w.heap.size w6 (.slice (some ⟨g6,0,none⟩) (i+1) c6) (i+1) (S++[s2])):=J (by unfold BH;rw[qbc];exact bw);have eb:w.heap.size<=w6.heap.size:=qae wn cQ.o.2.2.size;clear bw cG cP;have o8:Hid ((w6.alloc (.cells #[.int .i64 ((d3:Nat):Int)] 3)).ownsRow w.heap.size 3 1 (.slice (some ⟨g5,0,none⟩) i c5) i (D.map din)):=J (Ah cQ.o.1 (fun k _ hk=>Below.heap_alloc _ _ k hk));have gg:=J (Cd w6 3 [.int .i64 ((d3:Nat):Int)]);have pz:Hid (w.heap.size<=(w6.alloc (.cells #[.int .i64 ((d3:Nat):Int)] 3)).heap.size):=J (by simp;omega))|(refine wpList_append_lies _ rfl _ _ 41 rfl w.heap.size 3 i0 _ 1 8 Tryz.underlying41 hi aD hz1 bu rfl (by decide) (.slice (some ⟨g5,0,none⟩) i c5) i (D.map din) rfl o8.o ⟨w6.heap.size,0,none⟩ 1 1 [.int .i64 ((d3:Nat):Int)] rfl rfl gg.o (by simp[Value.oneCell']) (by decide) bN.o bM.o pz.o _ rfl ?_;intro g7 c7 w7 a5 dh dS mP;have dq:=J (EI (u':= .slice (some ⟨g7,0,none⟩) (i+1) c7) cQ.o.1 hU.o (cQ.o.2.1.symm) eb dh dS rfl rfl);have m7:Hid (BH w.heap.size w7 (.slice (some ⟨g7,0,none⟩) (i+1) c7) (i+1) (D++[d3])):=J (by unfold BH;rw[qbc];exact a5);clear a5 dh dS));go_wp2_with fail;go_roundw
           case rel=>exact⟨i+1,_,_,by omega,by go_num,HI.o.next dl.o dk.o dq.o.1 m7.o dq.o.2.1.symm (xj.o.more (cQ.o.2.2.trans dq.o.2.2))⟩
           case measure=>simp[intOf];omega
       ·have XE:(na != (i:Int)-(s1:Int))=true:=by rw[bne_iff_ne];exact hy
        have cC:=J (lQ.o (.inl hy));clear ld hy lQ jW;go_wp2_with fail;refine(aS.o _).mono ?_
        rintro e w2 ⟨rfl,rfl⟩;go_wp2_with fail;refine(cI.o _).mono ?_
        rintro e w3 ⟨rfl,ab⟩;have dj:=J (HX.o.trans (bq.o.trans ab));have be:=J (dV.o.ext ab);have q0:=be.o.five;have ex:=J (dT.o.ext (bq.o.trans ab));have iR:=J (dr.o.ext (bq.o.trans ab));have ea:w.heap.size<=w3.heap.size:=dj.o.size;clear ab;have ew:=uf.o w3 ex.o;have dg:=rA.o w3 iR.o;go_upto_region 15 with fail;go_region
        all_goals
         obtain⟨w8,eN⟩:∃w8,w8=w3.drew:=⟨_,rfl⟩;rw[<-eN];have eg:Hid (Ext w3 w8):=J (by rw[eN];exact(Ext.refl w3).drew);have iQ:=J (dj.o.trans eg.o);have kU:=J (be.o.ext eg.o);have q0:=kU.o.five;have lX:=J (ex.o.ext eg.o);have nh:=J (iR.o.ext eg.o);have ou:w.heap.size<=w8.heap.size:=iQ.o.size;clear eN;go_wp2_with fail;go_ret2;exact⟨_,_,rfl,iQ.o,.inl ⟨cC.o,rfl,rfl⟩⟩
     ·have fg:(nb != (i:Int)-1)=true:=by rw[bne_iff_ne];exact hz
      have cC:=J (aF.o (Ij aJ (.inl (by rw[mX.o];exact hz))));rw[aJ]at aS;clear aJ hp aF hz;go_wp2_with fail;refine(aS.o _).mono ?_
      rintro e w2 ⟨rfl,rfl⟩;go_wp2_with fail;refine(cI.o _).mono ?_
      rintro e w3 ⟨rfl,ab⟩;have dj:=J (HX.o.trans (bq.o.trans ab));have be:=J (dV.o.ext ab);have q0:=be.o.five;have ex:=J (dT.o.ext (bq.o.trans ab));have iR:=J (dr.o.ext (bq.o.trans ab));have ea:w.heap.size<=w3.heap.size:=dj.o.size;clear ab;go_wp2_with fail;go_ret2;exact⟨_,_,rfl,dj.o,.inl ⟨cC.o,rfl,rfl⟩⟩
  ·obtain rfl:i=n:=by omega
   have pJ:=HI.o.go;rw[qaS (by rw[<-HN.o];exact qab _)]at pJ;have fO:Hid (Ep l=if l.length=0\/S.getD (l.length-1) 0≠l.length then none else some (S,D)):=J (by unfold Ep;rw[pJ];rfl);rw[<-HN.o]at fO;have HX:=J a9.ext;have dT:=J a9.r4;have dr:=J a9.r5;have oY:=J a9.ok.size;clear a9 pJ;by_cases hz:i=0
   ·subst hz;have cC:Hid (Ep l=none):=J (by rw[fO.o,if_pos (.inl rfl)]);go_wp2_with fail;go_ret2;exact⟨_,_,rfl,HX.o,.inl ⟨cC.o,rfl,rfl⟩⟩
   ·obtain⟨g4,d4,gF,_,_⟩:=dT.o.form (by omega);injection gF with gF _ he5
    subst gF;clear he5;obtain⟨y,hy⟩:∃y:Int,y=(i:Int)-1:=⟨_,rfl⟩;have aa:=dT.o.get (i-1) (by omega);have hj:y.toNat=i-1:=by omega
    have pD:((i:Int) == 0)=false:=by rw[beq_eq_false_iff_ne];omega
    have p7:IntKind.i64.wrap ((i:Int)-1)=y:=by rw[IntWalk.i64_in _ (by omega),hy]
    have mg:(0:Int)<=y:=by omega
    have i3:y<(i:Int):=by omega
    rw[<-hj]at aa fO;have xx:=J (And.intro dT.o.len dr.o.len);have iB:=oY.o (i-1) (by have:=dT.o.len;omega);rw[<-hj]at iB;generalize S.getD y.toNat 0=sv at *;clear hj oY hy iB;by_cases he:sv=i
    ·have gN:Hid (Ep l=some (S,D)):=J (by rw[fO.o,if_neg (by omega)]);subst he;have hne:((sv:Int) != (sv:Int))=false:=by simp
     clear fO hz;go_wp2_with fail;go_ret2;exact⟨_,_,rfl,HX.o,.inr ⟨S,D,gN.o,by rw[<-HN.o];exact xx.o.1,by rw[<-HN.o];exact xx.o.2,dT.o.arr,dr.o.arr⟩⟩
    ·have cC:Hid (Ep l=none):=J (by rw[fO.o,if_pos (.inr he)]);have hne:((sv:Int) != (i:Int))=true:=by rw[bne_iff_ne];omega
     clear fO hz he;go_wp2_with fail;go_ret2;exact⟨_,_,rfl,HX.o,.inl ⟨cC.o,rfl,rfl⟩⟩
theorem Kr(w:World)(v:Value)(l:List Nd)(hr:RNd w v l)(hl:l.length<=1000000)(nW:∀x∈l,x.text.length<=1073741824):Calls Tryz.prog 67 #[v] w fun e w'=>e= .returned (.bool (Gb l))/\Ext w w':=by
 have HS:=J (Pu w v l hr hl nW);have HV:Hid (Gb l=(decide (1<=l.length/\l.length<=200) && match Ep l with|none=>false|some (_,D)=>decide (D.getD (l.length-1) 0<=40))):=J rfl;obtain⟨A,c,rfl,_⟩:=hr;generalize Gb l=r at *;clear nW;obtain⟨n,hn⟩:∃n,n=l.length:=⟨_,rfl⟩;have HN:=J hn;rw[<-hn]at hl HV HS ⊢;clear hn;by_cases h1:n<1
 ·obtain rfl:n=0:=by omega
  clear HS h1;go_enter Tryz.func67,Tryz.ntmps67;go_wp2_with fail;go_ret;exact⟨by rw[HV.o];rfl,Ext.refl w⟩
 ·have YE:decide ((n:Int)<1)=false:=decide_eq_false (by omega);have Wa:¬((n:Int)<1):=by omega
  by_cases h2:200<n
  ·have h2b:decide ((n:Int)>200)=true:=decide_eq_true (by omega);have V8:(200:Int)<(n:Int):=by omega
   have hd:decide (1<=n/\n<=200)=false:=decide_eq_false (by omega);rw[hd]at HV;clear HS h1 h2 hd;go_enter Tryz.func67,Tryz.ntmps67;go_wp2_with fail;go_ret;exact⟨by rw[HV.o];rfl,Ext.refl w⟩
  ·have h2b:decide ((n:Int)>200)=false:=decide_eq_false (by omega);have V8:¬(200:Int)<(n:Int):=by omega
   have hd:decide (1<=n/\n<=200)=true:=decide_eq_true (by omega);rw[hd,qaE]at HV;have h1n:1<=n:=by omega
   clear h1 h2 hd;go_enter Tryz.func67,Tryz.ntmps67;go_wp2_with fail;refine HS.o.mono ?_
   rintro e w1 ⟨v1,v2,rfl,hx,hp⟩;have HX:=J hx;clear hx;rcases hp with ⟨hs,rfl,rfl⟩|⟨S,D,hs,kA,ql,h4,h5⟩
   ·rw[hs]at HV;clear hs;go_wp2_with fail;go_ret;exact⟨by rw[HV.o];rfl,HX.o⟩
   ·rw[hs]at HV;have gY:Hid (r=decide (D.getD (n-1) 0<=40)):=J HV.o;clear HV;obtain⟨A4,c4,rfl,_⟩:=h4.open;obtain⟨A5,c5,rfl,h6⟩:=h5.open;rw[<-HN.o]at kA ql;rw[ql]at h6;obtain⟨g5,o5,rfl,_,h7⟩:=h6 (by omega);have h8:=h7 (n-1) (by omega);obtain⟨y,hy⟩:∃y:Int,y=(n:Int)-1:=⟨_,rfl⟩;have hj:y.toNat=n-1:=by omega
    rw[<-hj]at h8 gY;have hw:IntKind.i64.wrap ((n:Int)-1)=y:=by rw[IntWalk.i64_in _ (by omega),hy]
    have mg:(0:Int)<=y:=by omega
    have i3:y<(n:Int):=by omega
    generalize D.getD y.toNat 0=dv at *;have cx:(0:Int)<(n:Int):=by omega
    have hdv:decide (dv<=40)=decide ((dv:Int)<=40):=by rw[decide_eq_decide];omega
    have pU:=J hdv;rw[kA,ql];clear hs h4 h5 h6 h7 hj hy hdv kA ql;go_wp2_with fail;go_ret;exact⟨by rw[gY.o,pU.o];rfl,HX.o⟩
theorem H8(e:Ex)(hg:e.Good):∀off,∀x∈Ak off e,x.text.length<=1073741824:=by
 induction e with
 |leaf k t=>
  intro off x hx;rw[Ak,qaQ]at hx;subst hx;rcases hg with ⟨_,_,h⟩|⟨_,h⟩|⟨_,rfl⟩
  ·simp only;omega
  ·have:=Gy (qbN.1 h).1;simp only;omega
  ·simp
 |un k n x ih=>
  intro off y hy;rw[Ak,qbt,qaQ]at hy;rcases hy with hy|rfl
  ·exact ih hg.2.2.2.2 off y hy
  ·simp
 |bin k x z ihx ihy=>
  intro off y hy;rw[Ak,qbt,qbt,qaQ]at hy;rcases hy with hy|hy|rfl
  ·exact ihx hg.2.1 _ y hy
  ·exact ihy hg.2.2 _ y hy
  ·simp
theorem Gv.whole(e:Ex):Gv (Ak 0 e) (e.size-1) e:=⟨[],[],by simp,by have:=e.size_pos;simp;omega⟩
def B5(w:World):Prop:=∃m:Int,w.cell? ⟨0,0,none⟩=some (.int .i64 m)
theorem B5.ext{w w':World}(h:B5 w)(hx:Ext w w'):B5 w':=by
 obtain⟨m,h⟩:=h;exact⟨m,hx.keep h⟩
theorem JJ{w:World}(h:w.ShapedOpen Tryz.prog):B5 w:=Tryz.laysM145.s1_3 w h
theorem T3(w:World)(l:List UInt8)(hl:l.length<=1073741824)(hm:B5 w):
  Calls Tryz.prog 207 #[str l,.string ⟨#[46]⟩] w fun e w'=>e= .returned (.tuple #[str (whole l),str (Bb l),.bool (AE l)])/\Ext w w':=by
 obtain⟨m,hm⟩:=hm;have h:=Any.strings_Cut { Tryz.laysM145 with } ⟨l.toArray⟩ ⟨#[46]⟩ m w (by rw[Cv];omega) hm;have e:=T2 l;have e1:Lib.cut (⟨l.toArray⟩:ByteArray).data.toList (⟨#[46]⟩:ByteArray).data.toList=(whole l,Bb l,AE l):=e;rw[e1]at h;refine h.mono ?_
 rintro e w' ⟨rfl,n,rfl⟩;exact⟨rfl,(Ext.refl w).drewN n⟩
theorem Pg(w:World)(l:List UInt8):
  Calls Tryz.prog 208 #[str l,.string ⟨#[48]⟩] w fun e w'=>e= .returned (str (l.dropWhile (· == 48)))/\w=w':=by
 refine(Tryz.strings_TrimLeft_one ⟨l.toArray⟩ 48 (by decide) w).mono ?_
 rintro e w' ⟨rfl,rfl⟩;exact⟨rfl,rfl⟩
theorem Pi(w:World)(l:List UInt8)(hl:l.length<=1073741824)(h:l.all BA=true):
  Calls Tryz.prog 210 #[str l,.string ⟨#[48,49,50,51,52,53,54,55,56,57]⟩] w fun e w'=>e= .returned (str [])/\Ext w w':=by
 refine(Any.strings_Trim_laid Tryz.lays160 (by kernel_rfl) ⟨l.toArray⟩ ⟨#[48,49,50,51,52,53,54,55,56,57]⟩ w (by rw[Cv];omega) (by decide) (ascii_of_all (by decide))).mono ?_
 rintro e w' ⟨rfl,hb⟩;have e1:Lib.trimS (⟨l.toArray⟩:ByteArray).data.toList (⟨#[48,49,50,51,52,53,54,55,56,57]⟩:ByteArray).data.toList=[]:=Ph l h;rw[e1];exact⟨rfl,hb⟩
end Big
end Go.Proofs.YtkoaogkknnelaaaGreatDoor
