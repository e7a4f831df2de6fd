import Derived.Test.YtkoaogkknnelaaaGreatDoorM26
set_option linter.unusedVariables false
set_option linter.unusedSimpArgs false
set_option maxHeartbeats 4000000
set_option maxRecDepth 100000
namespace Go.Proofs.YtkoaogkknnelaaaGreatDoor
namespace Big
open Lib (hid)
open Go.RowKit
theorem EQ{V L:Nat}(h:(Ac V).length<=L)(j:Nat):(Ac (V ^ j)).length<=j*L+1:=by
 induction j with
 |zero=>
  rw[Nat.pow_zero];have:(Ac 1).length=1:=by decide+kernel
  omega
 |succ j ih=>
  rw[Nat.pow_succ,Nat.add_mul,Nat.one_mul];have:=AD ih h;omega
theorem Bt{V:Nat}(h:(Ac V).length<=1000000){j:Nat}(hj:j<=64):(Ac (V ^ j)).length<=64000001:=by
 have h1:=EQ h j;have h2:j*1000000<=64*1000000:=Nat.mul_le_mul_right _ hj;omega
theorem C4:Ac 1=[1]:=by decide+kernel
theorem Lm{m:Nat}(h:(Ac m).length=1):Ac m=[m]:=by
 have h0:m≠0:=by rintro rfl;simp[Bb]at h
 rw[Cu m h0]at h ⊢;have h1:Ac (m / 4294967296)=[]:=List.eq_nil_of_length_eq_zero (by simpa using h);rw[h1];have h2:=Br.1 h1
 congr 1
 omega
theorem Ob:∀a:Fin 65,bits .and .i64 (a.val:Int) 1=((a.val % 2:Nat):Int):=by decide+kernel
theorem Rx(n k:Nat):n / 2 ^ k=2*(n / 2 ^ (k+1))+n / 2 ^ k % 2:=by
 rw[Nat.pow_succ,<-Nat.div_div_eq_div_mul];omega
theorem IW(w:World)(v0:Value)(xs:List Nat)(h0:Arr w v0 xs)(n0:xs.length<=268435456):
  Calls Tryz.prog 276 #[v0] w fun e w'=>∃v',e= .returned v'/\Own w.heap.size w' v' (Ac (val xs*val xs))/\Ext w w':=by
 have H0:=hid h0;have HM:=hid (fun W m m' a b=>EP W m m' xs xs a b (by omega) (by omega));obtain⟨l0,A0,c0,rfl⟩:=h0.shape;clear h0;go_enter Tryz.func276,Tryz.ntmps276;go_wp2_with fail;have aq:=(Ext.refl w);have am:w.heap.size=w.heap.size:=by simp
 have HX:=hid (Ext.refl w);clear aq am;refine(HM.out _ _ _ (H0.out.ext HX.out) (H0.out.ext HX.out)).mono ?_
 rintro e w1 ⟨r0,rfl,aB,hx0⟩;have HX:=hid (HX.out.trans hx0);have dY:=hid hx0.size;have R0:=hid aB;obtain⟨g0,G0,j0,rfl⟩:=aB.shape;clear hx0 aB;go_wp2_with fail;go_ret;exact⟨_,rfl,R0.out,HX.out⟩
def E4(w wr:World)(V n:Nat)(s5 s6:Value):Prop:=
 (∃k:Nat,k<=6/\s6= .int .i64 (k:Int)/\Own w.heap.size wr s5 (Ac (V ^ (n / 2 ^ (k+1))))/\Ext w wr)\/(s6= .int .i64 (-1)/\Own w.heap.size wr s5 (Ac (V ^ n))/\Ext w wr)
theorem E4.next{w wr:World}{V n k:Nat}{s5:Value}(hk:k<=6)(ho:Own w.heap.size wr s5 (Ac (V ^ (n / 2 ^ k))))(hx:Ext w wr):E4 w wr V n s5 (.int .i64 ((k:Int)-1)):=by
 cases k with
 |zero=>right;rw[Nat.pow_zero,Nat.div_one]at ho;exact⟨rfl,ho,hx⟩
 |succ k=>left;exact⟨k,by omega,by congr 1;omega,ho,hx⟩
theorem Ff(w:World)(v0:Value)(xs:List Nat)(n:Nat)(h0:Arr w v0 xs)(hl:xs.length<=1000000)(hn:n<=64):
  Calls Tryz.prog 252 #[v0,.int .i64 (n:Int)] w fun e w'=>∃v',e= .returned v'/\Own w.heap.size w' v' (Ac (val xs ^ n))/\Ext w w':=by
 have H0:=hid h0;have hV:(Ac (val xs)).length<=1000000:=Nat.le_trans (An h0.ok) hl;have cY:=hid (fun W=>F8 W 1 (by decide));obtain⟨l0,A0,c0,rfl⟩:=h0.shape;have nG:¬(n:Int)<0:=by omega
 have du:¬(64:Int)<(n:Int):=by omega
 have hn2:(n:Int)<=64:=by omega
 have Z2:(0:Int)<=(n:Int):=by omega
 have yX:min (n:Int) 64=(n:Int):=by omega
 clear h0;generalize hVe:val xs=V at *;have VL:=hid hVe;clear hVe;go_enter Tryz.func252,Tryz.ntmps252;go_wp2_with fail;refine(cY.out _).mono ?_
 rintro e w1 ⟨r0,rfl,aB,hx0⟩;have R0:=hid aB;have ar:=hid hx0;obtain⟨g0,G0,j0,rfl⟩:=aB.shape;clear aB hx0 nG du hn2 Z2;go_wp2_with fail;clear yX;go_loopw [5,6] (fun s5 s6 wr=>E4 w wr V n s5 s6) (fun _ s6 _=>(intOf s6+1).toNat)
 case atStart=>exact .inl ⟨6,by omega,rfl,by rw[show n / 2 ^ (6+1)=0 from Nat.div_eq_of_lt (by omega),Nat.pow_zero];exact R0.out,ar.out⟩
 case round=>
  rcases hrel with ⟨k,hk,rfl,ho,hx⟩|⟨rfl,ho,hx⟩
  ·have mM:(0:Int)<=(k:Int):=by omega
   have hk64:(k:Int)<=64:=by omega
   obtain⟨m1,gM⟩:∃m1,m1=n / 2 ^ (k+1):=⟨_,rfl⟩;rw[<-gM]at ho;have xg:=Rx n k;rw[<-gM]at xg;have cp:n / 2 ^ k<=n:=Nat.div_le_self _ _;obtain⟨b,hb⟩:∃b,b=n / 2 ^ k % 2:=⟨_,rfl⟩;have gy:bits .and .i64 ((n:Int) / 2 ^ k) 1=(b:Int):=by
    have h1:=Ob ⟨n / 2 ^ k,by omega⟩;rw[hb,<-h1]
    congr 1
   rw[<-hb]at xg;have hb2:b<=1:=by omega
   have i8:=hid xg;have uW:2*m1<=64:=by omega
   have HO:=hid ho;have HX:=hid hx;obtain⟨g5,A5,c5,rfl⟩:=ho.shape;have aF:=ho.arr.len;have eF:V ^ m1*V ^ m1=V ^ (2*m1):=by rw[Nat.two_mul,Nat.pow_add]
   have gO:=hid (fun W m a=>IW W m (Ac (V ^ m1)) a (by have:=Bt hV (show m1<=64 by omega);omega));rw[Ad,eF]at gO;obtain⟨pv,A5',c5',he5,_,_,aa⟩:=ho.arr.open;injection he5 with e1 e2 e3
   subst e1;have fZ:=hid hV;have mU:=hid hl;have tq:=hid uW;clear e2 e3 hb xg cp gM eF hV hl uW;by_cases hone:V ^ m1=1
   ·have XT:V ^ (2*m1)=1:=by rw[Nat.two_mul,Nat.pow_add,hone]
    have d9:Hid (Own w.heap.size wr (.slice A5 g5 c5) (Ac (V ^ (2*m1)))):=hid (by rw[XT,<-hone];exact HO.out);rw[hone,C4]at aa aF;obtain⟨bb,oo,rfl,_,hc⟩:=aa (by simp);have hx0:wr.cell? ⟨bb,oo,none⟩=some (.int .u32 1):=hc 0 (by simp);rw[List.length_singleton]at aF;subst aF;clear aa hc ho hx hone XT pv;have nZ:b=0\/b=1:=by omega
    rcases nZ with rfl|rfl
    ·have gy:bits .and .i64 ((n:Int) / 2 ^ k) 1=0:=gy;go_wp2_with fail;go_roundw
     case rel=>exact E4.next hk (by rw[i8.out,Nat.add_zero];exact d9.out) (HX.out)
     case measure=>simp[intOf]<;>omega
    ·have ll:=hid (fun W m a c=>EP W m (.slice A0 l0 c0) (Ac (V ^ (2*m1))) xs a c (by have:=Bt fZ.out tq.out;omega) (by have:=mU.out;omega));rw[Ad,VL.out]at ll;have gy:bits .and .i64 ((n:Int) / 2 ^ k) 1=1:=gy;go_wp2_with fail;refine(ll.out _ _ d9.out.arr (H0.out.ext HX.out)).mono ?_
     rintro e w9 ⟨r9,rfl,iL,dn⟩;have R9:=hid (iL.mono (HX.out).size);have ei:=hid ((HX.out).trans dn);obtain⟨g9,G9,j9,rfl⟩:=iL.shape;clear iL dn;go_wp2_with fail;go_roundw
     case rel=>exact E4.next hk (by rw[i8.out,Nat.pow_succ];exact R9.out) ei.out
     case measure=>simp[intOf]<;>omega
   ·by_cases hg:g5=1
    ·subst hg;have hl1:=Lm aF.symm;rw[hl1]at aa;obtain⟨bb,oo,rfl,_,hc⟩:=aa (by simp);have hx0:=hc 0 (by simp);rw[Nat.add_zero]at hx0;simp only[List.getD_cons_zero]at hx0;have hlt:V ^ m1<4294967296:=by
      have:=pv.get 0;rw[hl1]at this;exact this
     generalize V ^ m1=Y at *;simp only[d32]at hx0;have p5:((Y:Int) != 1)=true:=by rw[bne_iff_ne];omega
     have Zq:((Y:Int) == 1)=false:=by rw[beq_eq_false_iff_ne];omega
     clear aa hc ho hx hl1 aF pv;go_wp2_with fail;refine(gO.out _ _ HO.out.arr).mono ?_
     rintro e w8 ⟨r8,rfl,dU,bD⟩;have R8:=hid (dU.mono HX.out.size);have dq:=hid (HX.out.trans bD);obtain⟨g8,G8,j8,rfl⟩:=dU.shape;clear dU bD;have nZ:b=0\/b=1:=by omega
     rcases nZ with rfl|rfl
     ·have gy:bits .and .i64 ((n:Int) / 2 ^ k) 1=0:=gy;go_wp2_with fail;go_roundw
      case rel=>exact E4.next hk (by rw[i8.out,Nat.add_zero];exact R8.out) (dq.out)
      case measure=>simp[intOf]<;>omega
     ·have ll:=hid (fun W m a c=>EP W m (.slice A0 l0 c0) (Ac (V ^ (2*m1))) xs a c (by have:=Bt fZ.out tq.out;omega) (by have:=mU.out;omega));rw[Ad,VL.out]at ll;have gy:bits .and .i64 ((n:Int) / 2 ^ k) 1=1:=gy;go_wp2_with fail;refine(ll.out _ _ R8.out.arr (H0.out.ext dq.out)).mono ?_
      rintro e w9 ⟨r9,rfl,iL,dn⟩;have R9:=hid (iL.mono (dq.out).size);have ei:=hid ((dq.out).trans dn);obtain⟨g9,G9,j9,rfl⟩:=iL.shape;clear iL dn;go_wp2_with fail;go_roundw
      case rel=>exact E4.next hk (by rw[i8.out,Nat.pow_succ];exact R9.out) ei.out
      case measure=>simp[intOf]<;>omega
    ·have hne:((g5:Int) != 1)=true:=by rw[bne_iff_ne];omega
     have hne2:((g5:Int) == 1)=false:=by rw[beq_eq_false_iff_ne];omega
     clear aa ho hx aF pv hg;go_wp2_with fail;refine(gO.out _ _ HO.out.arr).mono ?_
     rintro e w8 ⟨r8,rfl,dU,bD⟩;have R8:=hid (dU.mono HX.out.size);have dq:=hid (HX.out.trans bD);obtain⟨g8,G8,j8,rfl⟩:=dU.shape;clear dU bD;have nZ:b=0\/b=1:=by omega
     rcases nZ with rfl|rfl
     ·have gy:bits .and .i64 ((n:Int) / 2 ^ k) 1=0:=gy;go_wp2_with fail;go_roundw
      case rel=>exact E4.next hk (by rw[i8.out,Nat.add_zero];exact R8.out) (dq.out)
      case measure=>simp[intOf]<;>omega
     ·have ll:=hid (fun W m a c=>EP W m (.slice A0 l0 c0) (Ac (V ^ (2*m1))) xs a c (by have:=Bt fZ.out tq.out;omega) (by have:=mU.out;omega));rw[Ad,VL.out]at ll;have gy:bits .and .i64 ((n:Int) / 2 ^ k) 1=1:=gy;go_wp2_with fail;refine(ll.out _ _ R8.out.arr (H0.out.ext dq.out)).mono ?_
      rintro e w9 ⟨r9,rfl,iL,dn⟩;have R9:=hid (iL.mono (dq.out).size);have ei:=hid ((dq.out).trans dn);obtain⟨g9,G9,j9,rfl⟩:=iL.shape;clear iL dn;go_wp2_with fail;go_roundw
      case rel=>exact E4.next hk (by rw[i8.out,Nat.pow_succ];exact R9.out) ei.out
      case measure=>simp[intOf]<;>omega
  ·have HO:=hid ho;have HX:=hid hx;obtain⟨g5,A5,c5,rfl⟩:=ho.shape;clear ho hx;go_wp2_with fail;go_ret;exact⟨_,rfl,HO.out,HX.out⟩
def E0(N:Nat)(w:World)(e:Ending)(w':World):Prop:=
 ∃v' ok p q,e= .returned (.tuple #[v',.bool ok])/\Ag w.heap.size w' v' p q/\(ok=true->Low p q/\(Ac p.natAbs).length<=N/\(Ac q).length<=N)/\Ext w w'
theorem Ky{z:Int}{d N:Nat}(hz:(Ac z.natAbs).length<=N)(hd:(Ac d).length<=N):(Ac (Dy z d).natAbs).length<=N/\(Ac (C9 z d)).length<=N:=by
 constructor
 ·rw[Ek];exact Nat.le_trans (Ar (Nat.div_le_self _ _)) hz
 ·unfold C9;exact Nat.le_trans (Ar (Nat.div_le_self _ _)) hd
theorem T3(W:World)(v u:Value)(x:Int)(d:Nat)(h:Ap W v x)(h':Ap W u (d:Int))(hn:(Ac x.natAbs).length<=134217728)(bu:(Ac d).length<=134217728)(hd:0<d):
  Calls Tryz.prog 63 #[v,u] W fun e w'=>∃v',e= .returned (.tuple #[v',.int .i64 0])/\Ag W.heap.size w' v' (Dy x d) (C9 x d)/\Ext W w':=by
 have:=Hi W v u x (d:Int) h h' hn (by rw[AA];exact bu) (by omega);rw[(GE x d).1,(GE x d).2]at this;exact this
theorem Ur(w:World)(b:Bool)(m d:Value)(xs ys:List Nat)(N:Nat)(h:Arr w m xs)(h':Arr w d ys)(_hN:1<=N)(Vz:N<=1000)(hx:N<xs.length)(hy:N<ys.length):
  Calls Tryz.prog 13 #[.agg #[.bool b,m,d],.int .i64 (N:Int)] w (E0 N w):=by
 have H:=hid h;have H':=hid h';obtain⟨l0,A0,c0,rfl⟩:=h.shape;obtain⟨l1,A1,c1,rfl⟩:=h'.shape;have hl:=h.len;have pB:=h'.len;have HI:=hid (fun W=>Kx W b A0 l0 c0 (N:Int) (by omega));have HN:=hid (fun W=>Mo W A1 l1 c1 (N:Int) (by omega));clear h h' hl pB _hN Vz hx hy;go_enter Tryz.func13,Tryz.ntmps13;go_wp2_with fail;have hb0:=(Blk.new w 26 #[.bool b,.slice A0 l0 c0,.slice A1 l1 c1]).alloc (.cells #[.bool false,.slice none 0 0,.slice none 0 0] 26);have al:=Blk.new (w.alloc (.cells #[.bool b,.slice A0 l0 c0,.slice A1 l1 c1] 26)) 26 #[.bool false,.slice none 0 0,.slice none 0 0];have aq:=((Ext.refl w).alloc (.cells #[.bool b,.slice A0 l0 c0,.slice A1 l1 c1] 26)).alloc (.cells #[.bool false,.slice none 0 0,.slice none 0 0] 26);simp only[World.size_alloc]at al;have am:w.heap.size+1+1=((w.alloc (.cells #[.bool b,.slice A0 l0 c0,.slice A1 l1 c1] 26)).alloc (.cells #[.bool false,.slice none 0 0,.slice none 0 0] 26)).heap.size:=by simp
 generalize (w.alloc (.cells #[.bool b,.slice A0 l0 c0,.slice A1 l1 c1] 26)).alloc (.cells #[.bool false,.slice none 0 0,.slice none 0 0] 26)=wo at *;have ak:=hid hb0;have ai:=hid al;have HX:=hid aq;have ua:Hid (w.heap.size+1+1<=wo.heap.size):=hid (by omega);clear hb0 al aq am;refine(HI.out _).mono ?_
 rintro e w1 ⟨rfl,hx0⟩;have ar:=hid (HX.out.trans hx0);have dm:=hid (ak.out.ext hx0);have dl:=hid (ai.out.ext hx0);have jt:=hid hx0.size;clear hx0;have q0:=dm.out.three;have t0:=dl.out.three;go_wp2_with fail;have hb2:=Blk.new w1 24 #[.bool false,.slice none 0 0];have ag:=(Ext.refl w1).alloc (.cells #[.bool false,.slice none 0 0] 24);have ba:w1.heap.size<(w1.alloc (.cells #[.bool false,.slice none 0 0] 24)).heap.size:=by simp
 generalize w1.alloc (.cells #[.bool false,.slice none 0 0] 24)=w2 at *;have xw:Hid (w1.heap.size<w2.heap.size):=hid ba;generalize hga:w1.heap.size=ga at *;have kJ:=hid hga;have aI:=hid (ar.out.trans ag);have ko:=hid (dm.out.ext ag);have cH:=hid (dl.out.ext ag);have jC:=hid hb2;clear hb2 ag ba hga q0 t0;refine(HN.out _).mono ?_
 rintro e w3 ⟨rfl,rfl⟩;have t0:=cH.out.three;have i0:=jC.out.two;go_wp2_with fail;obtain⟨aj,ac,hr2⟩:=Ah cH.out (.bool false) (.slice none 0 0) (.slice none 0 0);refine bodyPost_ret (v:= .tuple #[.agg #[.bool false,.slice none 0 0,.slice none 0 0],.bool false]) (by simp[results,Tryz.results13,go_sem,aj,ac,hr2]) rfl ?_
 exact⟨_,false,0,0,rfl,Ag.zero _ _,fun e=>absurd e (by decide),((aI.out.setCell (Nat.le_succ _) _).setCell (Nat.le_succ _) _).setCell (Nat.le_succ _) _⟩
theorem Uq(w:World)(b:Bool)(m d:Value)(xs ys:List Nat)(N:Nat)(h:Arr w m xs)(h':Arr w d ys)(hN:1<=N)(jH:N<=1000)(hx:N<xs.length)(hy:ys.length<=N):
  Calls Tryz.prog 13 #[.agg #[.bool b,m,d],.int .i64 (N:Int)] w (E0 N w):=by
 have H:=hid h;have H':=hid h';obtain⟨l0,A0,c0,rfl⟩:=h.shape;obtain⟨l1,A1,c1,rfl⟩:=h'.shape;have hl:=h.len;have pB:=h'.len;have HI:=hid (fun W=>Kx W b A0 l0 c0 (N:Int) (by omega));have HN:=hid (fun W m a=>Jp W m ys (N:Int) a (by omega) (by omega));clear h h' hl pB hN jH hx hy;go_enter Tryz.func13,Tryz.ntmps13;go_wp2_with fail;have hb0:=(Blk.new w 26 #[.bool b,.slice A0 l0 c0,.slice A1 l1 c1]).alloc (.cells #[.bool false,.slice none 0 0,.slice none 0 0] 26);have al:=Blk.new (w.alloc (.cells #[.bool b,.slice A0 l0 c0,.slice A1 l1 c1] 26)) 26 #[.bool false,.slice none 0 0,.slice none 0 0];have aq:=((Ext.refl w).alloc (.cells #[.bool b,.slice A0 l0 c0,.slice A1 l1 c1] 26)).alloc (.cells #[.bool false,.slice none 0 0,.slice none 0 0] 26);simp only[World.size_alloc]at al;have am:w.heap.size+1+1=((w.alloc (.cells #[.bool b,.slice A0 l0 c0,.slice A1 l1 c1] 26)).alloc (.cells #[.bool false,.slice none 0 0,.slice none 0 0] 26)).heap.size:=by simp
 generalize (w.alloc (.cells #[.bool b,.slice A0 l0 c0,.slice A1 l1 c1] 26)).alloc (.cells #[.bool false,.slice none 0 0,.slice none 0 0] 26)=wo at *;have ak:=hid hb0;have ai:=hid al;have HX:=hid aq;have ua:Hid (w.heap.size+1+1<=wo.heap.size):=hid (by omega);clear hb0 al aq am;refine(HI.out _).mono ?_
 rintro e w1 ⟨rfl,hx0⟩;have ar:=hid (HX.out.trans hx0);have dm:=hid (ak.out.ext hx0);have dl:=hid (ai.out.ext hx0);have jt:=hid hx0.size;clear hx0;have q0:=dm.out.three;have t0:=dl.out.three;go_wp2_with fail;have hb2:=Blk.new w1 24 #[.bool false,.slice none 0 0];have ag:=(Ext.refl w1).alloc (.cells #[.bool false,.slice none 0 0] 24);have ba:w1.heap.size<(w1.alloc (.cells #[.bool false,.slice none 0 0] 24)).heap.size:=by simp
 generalize w1.alloc (.cells #[.bool false,.slice none 0 0] 24)=w2 at *;have xw:Hid (w1.heap.size<w2.heap.size):=hid ba;generalize hga:w1.heap.size=ga at *;have kJ:=hid hga;have aI:=hid (ar.out.trans ag);have ko:=hid (dm.out.ext ag);have cH:=hid (dl.out.ext ag);have jC:=hid hb2;clear hb2 ag ba hga q0 t0;refine(HN.out _ _ (H'.out.ext aI.out)).mono ?_
 rintro e w3 ⟨r1,rfl,aR,ae⟩;have R1:=hid aR;obtain⟨g1,G1,j1,rfl⟩:=aR.shape;have ed:=aR.arr.len;clear aR;have aC:=hid (aI.out.trans ae);have dP:=hid (cH.out.ext ae);have lA:=hid (jC.out.ext ae);have xx:=hid ae.size;clear ae;have t0:=dP.out.three;have i0:=lA.out.two;clear ed;go_wp2_with fail;obtain⟨aj,ac,hr2⟩:=Ah dP.out (.bool false) (.slice none 0 0) (.slice none 0 0);refine bodyPost_ret (v:= .tuple #[.agg #[.bool false,.slice none 0 0,.slice none 0 0],.bool false]) (by simp[results,Tryz.results13,go_sem,aj,ac,hr2]) rfl ?_
 exact⟨_,false,0,0,rfl,Ag.zero _ _,fun e=>absurd e (by decide),((aC.out.setCell (Nat.le_succ _) _).setCell (Nat.le_succ _) _).setCell (Nat.le_succ _) _⟩
theorem Up(w:World)(b:Bool)(m d:Value)(xs ys:List Nat)(N:Nat)(h:Arr w m xs)(h':Arr w d ys)(hN:1<=N)(jH:N<=1000)(hx:xs.length<=N)(hy:N<ys.length):
  Calls Tryz.prog 13 #[.agg #[.bool b,m,d],.int .i64 (N:Int)] w (E0 N w):=by
 have H:=hid h;have H':=hid h';obtain⟨l0,A0,c0,rfl⟩:=h.shape;obtain⟨l1,A1,c1,rfl⟩:=h'.shape;have hl:=h.len;have pB:=h'.len;have HI:=hid (fun W m a=>Jq W b m xs (N:Int) a (by omega) (by omega));have HN:=hid (fun W=>Mo W A1 l1 c1 (N:Int) (by omega));clear h h' hl pB hN jH hx hy;go_enter Tryz.func13,Tryz.ntmps13;go_wp2_with fail;have hb0:=(Blk.new w 26 #[.bool b,.slice A0 l0 c0,.slice A1 l1 c1]).alloc (.cells #[.bool false,.slice none 0 0,.slice none 0 0] 26);have al:=Blk.new (w.alloc (.cells #[.bool b,.slice A0 l0 c0,.slice A1 l1 c1] 26)) 26 #[.bool false,.slice none 0 0,.slice none 0 0];have aq:=((Ext.refl w).alloc (.cells #[.bool b,.slice A0 l0 c0,.slice A1 l1 c1] 26)).alloc (.cells #[.bool false,.slice none 0 0,.slice none 0 0] 26);simp only[World.size_alloc]at al;have am:w.heap.size+1+1=((w.alloc (.cells #[.bool b,.slice A0 l0 c0,.slice A1 l1 c1] 26)).alloc (.cells #[.bool false,.slice none 0 0,.slice none 0 0] 26)).heap.size:=by simp
 generalize (w.alloc (.cells #[.bool b,.slice A0 l0 c0,.slice A1 l1 c1] 26)).alloc (.cells #[.bool false,.slice none 0 0,.slice none 0 0] 26)=wo at *;have ak:=hid hb0;have ai:=hid al;have HX:=hid aq;have ua:Hid (w.heap.size+1+1<=wo.heap.size):=hid (by omega);clear hb0 al aq am;refine(HI.out _ _ (H.out.ext HX.out)).mono ?_
 rintro e w1 ⟨r0,rfl,aB,hx0⟩;have R0:=hid aB;obtain⟨f0,g0,G0,j0,rfl⟩:=aB.shape;clear aB;have ar:=hid (HX.out.trans hx0);have dm:=hid (ak.out.ext hx0);have dl:=hid (ai.out.ext hx0);have jt:=hid hx0.size;clear hx0;have q0:=dm.out.three;have t0:=dl.out.three;go_wp2_with fail;have hb2:=Blk.new w1 24 #[.bool f0,.slice G0 g0 j0];have ag:=(Ext.refl w1).alloc (.cells #[.bool f0,.slice G0 g0 j0] 24);have ba:w1.heap.size<(w1.alloc (.cells #[.bool f0,.slice G0 g0 j0] 24)).heap.size:=by simp
 generalize w1.alloc (.cells #[.bool f0,.slice G0 g0 j0] 24)=w2 at *;have xw:Hid (w1.heap.size<w2.heap.size):=hid ba;generalize hga:w1.heap.size=ga at *;have kJ:=hid hga;have aI:=hid (ar.out.trans ag);have ko:=hid (dm.out.ext ag);have cH:=hid (dl.out.ext ag);have jC:=hid hb2;have t9:=hid (R0.out.ext ag);clear hb2 ag ba hga q0 t0;refine(HN.out _).mono ?_
 rintro e w3 ⟨rfl,rfl⟩;have t0:=cH.out.three;have i0:=jC.out.two;go_wp2_with fail;obtain⟨aj,ac,hr2⟩:=Ah cH.out (.bool false) (.slice none 0 0) (.slice none 0 0);refine bodyPost_ret (v:= .tuple #[.agg #[.bool false,.slice none 0 0,.slice none 0 0],.bool false]) (by simp[results,Tryz.results13,go_sem,aj,ac,hr2]) rfl ?_
 exact⟨_,false,0,0,rfl,Ag.zero _ _,fun e=>absurd e (by decide),((aI.out.setCell (Nat.le_succ _) _).setCell (Nat.le_succ _) _).setCell (Nat.le_succ _) _⟩
theorem Uo(w:World)(b:Bool)(m d:Value)(xs ys:List Nat)(N:Nat)(h:Arr w m xs)(h':Arr w d ys)(hN:1<=N)(jH:N<=1000)(hx:xs.length<=N)(hy:ys.length<=N)(hz:val ys=0):
  Calls Tryz.prog 13 #[.agg #[.bool b,m,d],.int .i64 (N:Int)] w (E0 N w):=by
 have H:=hid h;have H':=hid h';obtain⟨l0,A0,c0,rfl⟩:=h.shape;obtain⟨l1,A1,c1,rfl⟩:=h'.shape;have hl:=h.len;have pB:=h'.len;have HI:=hid (fun W m a=>Jq W b m xs (N:Int) a (by omega) (by omega));have HN:=hid (fun W m a=>Jp W m ys (N:Int) a (by omega) (by omega));have je:(Ac (sgn b (val xs)).natAbs).length<=N:=by rw[B6];exact Nat.le_trans (An h.ok) hx
 have kV:(Ac 1).length<=N:=by rw[C4];exact hN
 have HR:=hid (Ky je kV);have jz:Hid (Low (Dy (sgn b (val xs)) 1) (C9 (sgn b (val xs)) 1)):=hid (Jv _ (by decide));have qI:=hid (fun W m a=>BL W false m (Ac 1) a (by omega));rw[Ad,show sgn false 1=((1:Nat):Int) from rfl]at qI;have jK:=hid (fun W v u a c=>T3 W v u (sgn b (val xs)) 1 a c (by omega) (by omega) (by decide));have cY:=hid (fun W=>FC W 1 (by decide));have aE:(Ac (val ys)).length=0:=by rw[hz];rfl
 generalize hZ:sgn b (val xs)=Z at *;clear je kV hZ;clear h h' hl pB hN jH hx hy hz;go_enter Tryz.func13,Tryz.ntmps13;go_wp2_with fail;have hb0:=(Blk.new w 26 #[.bool b,.slice A0 l0 c0,.slice A1 l1 c1]).alloc (.cells #[.bool false,.slice none 0 0,.slice none 0 0] 26);have al:=Blk.new (w.alloc (.cells #[.bool b,.slice A0 l0 c0,.slice A1 l1 c1] 26)) 26 #[.bool false,.slice none 0 0,.slice none 0 0];have aq:=((Ext.refl w).alloc (.cells #[.bool b,.slice A0 l0 c0,.slice A1 l1 c1] 26)).alloc (.cells #[.bool false,.slice none 0 0,.slice none 0 0] 26);simp only[World.size_alloc]at al;have am:w.heap.size+1+1=((w.alloc (.cells #[.bool b,.slice A0 l0 c0,.slice A1 l1 c1] 26)).alloc (.cells #[.bool false,.slice none 0 0,.slice none 0 0] 26)).heap.size:=by simp
 generalize (w.alloc (.cells #[.bool b,.slice A0 l0 c0,.slice A1 l1 c1] 26)).alloc (.cells #[.bool false,.slice none 0 0,.slice none 0 0] 26)=wo at *;have ak:=hid hb0;have ai:=hid al;have HX:=hid aq;have ua:Hid (w.heap.size+1+1<=wo.heap.size):=hid (by omega);clear hb0 al aq am;refine(HI.out _ _ (H.out.ext HX.out)).mono ?_
 rintro e w1 ⟨r0,rfl,aB,hx0⟩;have R0:=hid aB;obtain⟨f0,g0,G0,j0,rfl⟩:=aB.shape;clear aB;have ar:=hid (HX.out.trans hx0);have dm:=hid (ak.out.ext hx0);have dl:=hid (ai.out.ext hx0);have jt:=hid hx0.size;clear hx0;have q0:=dm.out.three;obtain⟨t0,t1,t2,s0,s1,s2,tz⟩:=dl.out.three;go_wp2_with fail;have hb2:=Blk.new w1 24 #[.bool f0,.slice G0 g0 j0];have ag:=(Ext.refl w1).alloc (.cells #[.bool f0,.slice G0 g0 j0] 24);have ba:w1.heap.size<(w1.alloc (.cells #[.bool f0,.slice G0 g0 j0] 24)).heap.size:=by simp
 generalize w1.alloc (.cells #[.bool f0,.slice G0 g0 j0] 24)=w2 at *;have xw:Hid (w1.heap.size<w2.heap.size):=hid ba;generalize hga:w1.heap.size=ga at *;have kJ:=hid hga;have aI:=hid (ar.out.trans ag);have ko:=hid (dm.out.ext ag);have cH:=hid (dl.out.ext ag);have jC:=hid hb2;have t9:=hid (R0.out.ext ag);clear hb2 ag ba hga q0 t0 t1 t2 s0 s1 s2 tz;refine(HN.out _ _ (H'.out.ext aI.out)).mono ?_
 rintro e w3 ⟨r1,rfl,aR,ae⟩;have R1:=hid aR;obtain⟨g1,G1,j1,rfl⟩:=aR.shape;have ed:=aR.arr.len;clear aR;have aC:=hid (aI.out.trans ae);have dP:=hid (cH.out.ext ae);have lA:=hid (jC.out.ext ae);have xx:=hid ae.size;have vS:=hid (t9.out.ext ae);clear ae;obtain⟨t0,t1,t2,s0,s1,s2,tz⟩:=dP.out.three;have i0:=lA.out.two;have lE:g1=0:=ed.trans aE;subst lE;clear ed aE;go_wp2_with fail;refine(cY.out _).mono ?_
 rintro e w4 ⟨r2,rfl,ax,ab⟩;have R2:=hid ax;obtain⟨g2,G2,j2,rfl⟩:=ax.shape;clear ax t0 t1 t2 s0 s1 s2 tz i0;have bw:=hid (aC.out.trans ab);have iz:=hid (dP.out.ext ab);have wQ:=hid (lA.out.ext ab);have R04:=hid (vS.out.ext ab);have HZ4:Hid (w2.heap.size<=w4.heap.size):=hid (by have:=xx.out;have:=ab.size;omega);clear ab;obtain⟨t0,t1,t2,s0,s1,s2,tz⟩:=iz.out.three;have i0:=wQ.out.two;go_upto_region 7 with fail;have y7:=tz;have WY:=ua.out
 go_cut [10] from 37 to 43 (fun s10 wx=>∃(gx B:Nat) (f8:Bool) (g8:Nat) (G8:Option Addr) (j8 y8:Nat) (Y8:Option Addr) (z8:Nat),s10= .pointer (some ⟨gx,0,none⟩)/\wx.cell? ⟨gx,0,none⟩=some (.bool f8)/\wx.cell? ⟨gx,1,none⟩=some (.slice G8 g8 j8)/\wx.cell? ⟨gx,2,none⟩=some (.slice Y8 y8 z8)/\gx<wx.heap.size/\w.heap.size+1<B/\Ag B wx (.agg #[.bool f8,.slice G8 g8 j8,.slice Y8 y8 z8]) (Dy Z 1) (C9 Z 1)/\Blk wx (w.heap.size+1) 26 #[.bool false,.slice none 0 0,.slice none 0 0]/\Ext w wx)
 case first=>
  have po:=(Ext.refl w4).drew
  go_region_law (first
   |(go_simp;go_at_call 64;refine(qI.out _ _ (by first|exact R2.out.arr.ext po|exact R2.out.arr.ext (po.alloc _))).mono ?_;rintro e w7 ⟨r7,rfl,kB,bx⟩;have R7:=hid kB;obtain⟨f7,g7,G7,j7,rfl⟩:=kB.shape;have mA:Hid (Ext w4 w7):=hid (by first|exact po.trans bx|exact(po.alloc _).trans bx);(try (have cP:=((Blk.new _ 26 #[.bool false,.slice none 0 0,.slice none 0 0]).drew).ext bx;(try simp only[World.size_drew]at cP)));clear t0 t1 t2 s0 s1 s2 tz i0;have i0:=(wQ.out.ext mA.out).two;clear kB)
   |(go_simp;go_at_call 63;refine(jK.out _ _ _ (R04.out.arr.ext (by first|exact mA.out|exact mA.out.alloc _)) (by first|exact R7.out.arr|exact R7.out.arr.ext ((Ext.refl _).alloc _))).mono ?_;rintro e w8 ⟨r8,rfl,dU,bD⟩;have R8:=hid dU;have zc:=mA.out.size;(try (have jj:=cP.lt));obtain⟨f8,g8,G8,j8,y8,Y8,z8,rfl⟩:=dU.shape;(try (have kC:=cP.ext bD;obtain⟨k0,k1,k2,q6,qZ,qY,kz⟩:=kC.three));(try (have kC:=(Blk.new _ 26 #[.bool false,.slice none 0 0,.slice none 0 0]).ext bD;obtain⟨k0,k1,k2,q6,qZ,qY,kz⟩:=kC.three));have lu:Hid (Ext w4 w8):=hid (by first|exact mA.out.trans bD|exact(mA.out.alloc _).trans bD);clear i0;obtain⟨t0,t1,t2,s0,s1,s2,tz⟩:=(iz.out.ext lu.out).three;clear dU))
  all_goals go_wp2_with fail
  all_goals go_meet
  all_goals first
   |(have eG:Blk w8 w7.heap.size 26 #[.bool false,.slice none 0 0,.slice none 0 0]:=kC;have hT:=((eG.set_ 0 (.bool f8)).set_ 1 (.slice G8 g8 j8)).set_ 2 (.slice Y8 y8 z8);exact⟨_,_,_,_,_,_,_,_,_,rfl,hT.cell 0,hT.cell 1,hT.cell 2,hT.lt,(by first|omega|(simp<;>omega)),(((R8.out.far (a:=⟨w7.heap.size,0,none⟩) (show w7.heap.size<_ by first|omega|(simp<;>omega)) (.bool f8)).far (a:=⟨w7.heap.size,1,none⟩) (show w7.heap.size<_ by first|omega|(simp<;>omega)) (.slice G8 g8 j8)).far (a:=⟨w7.heap.size,2,none⟩) (show w7.heap.size<_ by first|omega|(simp<;>omega)) (.slice Y8 y8 z8)),((((iz.out.ext lu.out).far (p:=⟨w7.heap.size,0,none⟩) (show w.heap.size+1≠_ by (try simp only)<;>omega) (.bool f8)).far (p:=⟨w7.heap.size,1,none⟩) (show w.heap.size+1≠_ by (try simp only)<;>omega) (.slice G8 g8 j8)).far (p:=⟨w7.heap.size,2,none⟩) (show w.heap.size+1≠_ by (try simp only)<;>omega) (.slice Y8 y8 z8)),((((bw.out.trans lu.out).setCell (p:=⟨w7.heap.size,0,none⟩) (show w.heap.size<=_ by (try simp only)<;>omega) (.bool f8)).setCell (p:=⟨w7.heap.size,1,none⟩) (show w.heap.size<=_ by (try simp only)<;>omega) (.slice G8 g8 j8)).setCell (p:=⟨w7.heap.size,2,none⟩) (show w.heap.size<=_ by (try simp only)<;>omega) (.slice Y8 y8 z8))⟩)
   |(have eG:Blk w8 w4.heap.size 26 #[.bool false,.slice none 0 0,.slice none 0 0]:=kC;have hT:=((eG.set_ 0 (.bool f8)).set_ 1 (.slice G8 g8 j8)).set_ 2 (.slice Y8 y8 z8);exact⟨_,_,_,_,_,_,_,_,_,rfl,hT.cell 0,hT.cell 1,hT.cell 2,hT.lt,(by first|omega|(simp<;>omega)),(((R8.out.far (a:=⟨w4.heap.size,0,none⟩) (show w4.heap.size<_ by first|omega|(simp<;>omega)) (.bool f8)).far (a:=⟨w4.heap.size,1,none⟩) (show w4.heap.size<_ by first|omega|(simp<;>omega)) (.slice G8 g8 j8)).far (a:=⟨w4.heap.size,2,none⟩) (show w4.heap.size<_ by first|omega|(simp<;>omega)) (.slice Y8 y8 z8)),((((iz.out.ext lu.out).far (p:=⟨w4.heap.size,0,none⟩) (show w.heap.size+1≠_ by (try simp only)<;>omega) (.bool f8)).far (p:=⟨w4.heap.size,1,none⟩) (show w.heap.size+1≠_ by (try simp only)<;>omega) (.slice G8 g8 j8)).far (p:=⟨w4.heap.size,2,none⟩) (show w.heap.size+1≠_ by (try simp only)<;>omega) (.slice Y8 y8 z8)),((((bw.out.trans lu.out).setCell (p:=⟨w4.heap.size,0,none⟩) (show w.heap.size<=_ by (try simp only)<;>omega) (.bool f8)).setCell (p:=⟨w4.heap.size,1,none⟩) (show w.heap.size<=_ by (try simp only)<;>omega) (.slice G8 g8 j8)).setCell (p:=⟨w4.heap.size,2,none⟩) (show w.heap.size<=_ by (try simp only)<;>omega) (.slice Y8 y8 z8))⟩)
   |(have hT:=Blk.new w8 26 #[.bool f8,.slice G8 g8 j8,.slice Y8 y8 z8];exact⟨_,_,_,_,_,_,_,_,_,rfl,hT.cell 0,hT.cell 1,hT.cell 2,hT.lt,(by first|omega|(simp<;>omega)),R8.out.ext ((Ext.refl w8).alloc _),(iz.out.ext lu.out).alloc _,(bw.out.trans lu.out).alloc _⟩)
 case rest=>
 obtain⟨gx,B,f8,g8,G8,j8,y8,Y8,z8,rfl,k0,k1,k2,kz,kZ,hI,hB,hE⟩:=hcut;have WI:=hid hB;have Wo:=hid hI;have Ww:=hid hE;clear t0 t1 t2 s0 s1 s2 tz i0;obtain⟨t0,t1,t2,s0,s1,s2,tz⟩:=hB.three;clear hB hI hE;go_wp2_with fail;obtain⟨aj,ac,hr2⟩:=Ah WI.out (.bool f8) (.slice G8 g8 j8) (.slice Y8 y8 z8);refine bodyPost_ret (v:= .tuple #[.agg #[.bool f8,.slice G8 g8 j8,.slice Y8 y8 z8],.bool true]) (by simp[results,Tryz.results13,go_sem,aj,ac,hr2]) rfl ?_
 exact⟨_,true,_,_,rfl,(((Wo.out.far (a:=⟨w.heap.size+1,0,none⟩) kZ (.bool f8)).far (a:=⟨w.heap.size+1,1,none⟩) kZ (.slice G8 g8 j8)).far (a:=⟨w.heap.size+1,2,none⟩) kZ (.slice Y8 y8 z8)).mono (by omega),fun _=>⟨jz.out,HR.out⟩,(((Ww.out.setCell (p:=⟨w.heap.size+1,0,none⟩) (Nat.le_succ _) (.bool f8)).setCell (p:=⟨w.heap.size+1,1,none⟩) (Nat.le_succ _) (.slice G8 g8 j8)).setCell (p:=⟨w.heap.size+1,2,none⟩) (Nat.le_succ _) (.slice Y8 y8 z8))⟩
theorem Un(w:World)(b:Bool)(m d:Value)(xs ys:List Nat)(N:Nat)(h:Arr w m xs)(h':Arr w d ys)(hN:1<=N)(jH:N<=1000)(hx:xs.length<=N)(hy:ys.length<=N)(hz:0<val ys):
  Calls Tryz.prog 13 #[.agg #[.bool b,m,d],.int .i64 (N:Int)] w (E0 N w):=by
 have H:=hid h;have H':=hid h';obtain⟨l0,A0,c0,rfl⟩:=h.shape;obtain⟨l1,A1,c1,rfl⟩:=h'.shape;have hl:=h.len;have pB:=h'.len;have HI:=hid (fun W m a=>Jq W b m xs (N:Int) a (by omega) (by omega));have HN:=hid (fun W m a=>Jp W m ys (N:Int) a (by omega) (by omega));have je:(Ac (sgn b (val xs)).natAbs).length<=N:=by rw[B6];exact Nat.le_trans (An h.ok) hx
 have kV:(Ac (val ys)).length<=N:=Nat.le_trans (An h'.ok) hy;have HR:=hid (Ky je kV);have jz:Hid (Low (Dy (sgn b (val xs)) (val ys)) (C9 (sgn b (val xs)) (val ys))):=hid (Jv _ hz);have qI:=hid (fun W m a=>BL W false m (Ac (val ys)) a (by omega));rw[Ad,show sgn false (val ys)=(((val ys):Nat):Int) from rfl]at qI;have jK:=hid (fun W v u a c=>T3 W v u (sgn b (val xs)) (val ys) a c (by omega) (by omega) hz);have hz1:0<(Ac (val ys)).length:=by rw[List.length_pos_iff];intro e;rw[Br]at e;omega
 generalize hZ:sgn b (val xs)=Z at *;clear je kV hZ;clear h h' hl pB hN jH hx hy hz;go_enter Tryz.func13,Tryz.ntmps13;go_wp2_with fail;have hb0:=(Blk.new w 26 #[.bool b,.slice A0 l0 c0,.slice A1 l1 c1]).alloc (.cells #[.bool false,.slice none 0 0,.slice none 0 0] 26);have al:=Blk.new (w.alloc (.cells #[.bool b,.slice A0 l0 c0,.slice A1 l1 c1] 26)) 26 #[.bool false,.slice none 0 0,.slice none 0 0];have aq:=((Ext.refl w).alloc (.cells #[.bool b,.slice A0 l0 c0,.slice A1 l1 c1] 26)).alloc (.cells #[.bool false,.slice none 0 0,.slice none 0 0] 26);simp only[World.size_alloc]at al;have am:w.heap.size+1+1=((w.alloc (.cells #[.bool b,.slice A0 l0 c0,.slice A1 l1 c1] 26)).alloc (.cells #[.bool false,.slice none 0 0,.slice none 0 0] 26)).heap.size:=by simp
 generalize (w.alloc (.cells #[.bool b,.slice A0 l0 c0,.slice A1 l1 c1] 26)).alloc (.cells #[.bool false,.slice none 0 0,.slice none 0 0] 26)=wo at *;have ak:=hid hb0;have ai:=hid al;have HX:=hid aq;have ua:Hid (w.heap.size+1+1<=wo.heap.size):=hid (by omega);clear hb0 al aq am;refine(HI.out _ _ (H.out.ext HX.out)).mono ?_
 rintro e w1 ⟨r0,rfl,aB,hx0⟩;have R0:=hid aB;obtain⟨f0,g0,G0,j0,rfl⟩:=aB.shape;clear aB;have ar:=hid (HX.out.trans hx0);have dm:=hid (ak.out.ext hx0);have dl:=hid (ai.out.ext hx0);have jt:=hid hx0.size;clear hx0;have q0:=dm.out.three;obtain⟨t0,t1,t2,s0,s1,s2,tz⟩:=dl.out.three;go_wp2_with fail;have hb2:=Blk.new w1 24 #[.bool f0,.slice G0 g0 j0];have ag:=(Ext.refl w1).alloc (.cells #[.bool f0,.slice G0 g0 j0] 24);have ba:w1.heap.size<(w1.alloc (.cells #[.bool f0,.slice G0 g0 j0] 24)).heap.size:=by simp
 generalize w1.alloc (.cells #[.bool f0,.slice G0 g0 j0] 24)=w2 at *;have xw:Hid (w1.heap.size<w2.heap.size):=hid ba;generalize hga:w1.heap.size=ga at *;have kJ:=hid hga;have aI:=hid (ar.out.trans ag);have ko:=hid (dm.out.ext ag);have cH:=hid (dl.out.ext ag);have jC:=hid hb2;have t9:=hid (R0.out.ext ag);clear hb2 ag ba hga q0 t0 t1 t2 s0 s1 s2 tz;refine(HN.out _ _ (H'.out.ext aI.out)).mono ?_
 rintro e w3 ⟨r1,rfl,aR,ae⟩;have R1:=hid aR;obtain⟨g1,G1,j1,rfl⟩:=aR.shape;have ed:=aR.arr.len;clear aR;have aC:=hid (aI.out.trans ae);have dP:=hid (cH.out.ext ae);have lA:=hid (jC.out.ext ae);have xx:=hid ae.size;have vS:=hid (t9.out.ext ae);clear ae;obtain⟨t0,t1,t2,s0,s1,s2,tz⟩:=dP.out.three;have i0:=lA.out.two;have lE:((g1:Int) == 0)=false:=by rw[beq_eq_false_iff_ne];omega
 clear ed hz1;have HZ4:=xx;go_upto_region 7 with fail;have y7:=tz;have WY:=ua.out
 go_cut [10] from 37 to 43 (fun s10 wx=>∃(gx B:Nat) (f8:Bool) (g8:Nat) (G8:Option Addr) (j8 y8:Nat) (Y8:Option Addr) (z8:Nat),s10= .pointer (some ⟨gx,0,none⟩)/\wx.cell? ⟨gx,0,none⟩=some (.bool f8)/\wx.cell? ⟨gx,1,none⟩=some (.slice G8 g8 j8)/\wx.cell? ⟨gx,2,none⟩=some (.slice Y8 y8 z8)/\gx<wx.heap.size/\w.heap.size+1<B/\Ag B wx (.agg #[.bool f8,.slice G8 g8 j8,.slice Y8 y8 z8]) (Dy Z (val ys)) (C9 Z (val ys))/\Blk wx (w.heap.size+1) 26 #[.bool false,.slice none 0 0,.slice none 0 0]/\Ext w wx)
 case first=>
  have po:=(Ext.refl w3).drew
  go_region_law (first
   |(go_simp;go_at_call 64;refine(qI.out _ _ (by first|exact R1.out.arr.ext po|exact R1.out.arr.ext (po.alloc _))).mono ?_;rintro e w7 ⟨r7,rfl,kB,bx⟩;have R7:=hid kB;obtain⟨f7,g7,G7,j7,rfl⟩:=kB.shape;have mA:Hid (Ext w3 w7):=hid (by first|exact po.trans bx|exact(po.alloc _).trans bx);(try (have cP:=((Blk.new _ 26 #[.bool false,.slice none 0 0,.slice none 0 0]).drew).ext bx;(try simp only[World.size_drew]at cP)));clear t0 t1 t2 s0 s1 s2 tz i0;have i0:=(lA.out.ext mA.out).two;clear kB)
   |(go_simp;go_at_call 63;refine(jK.out _ _ _ (vS.out.arr.ext (by first|exact mA.out|exact mA.out.alloc _)) (by first|exact R7.out.arr|exact R7.out.arr.ext ((Ext.refl _).alloc _))).mono ?_;rintro e w8 ⟨r8,rfl,dU,bD⟩;have R8:=hid dU;have zc:=mA.out.size;(try (have jj:=cP.lt));obtain⟨f8,g8,G8,j8,y8,Y8,z8,rfl⟩:=dU.shape;(try (have kC:=cP.ext bD;obtain⟨k0,k1,k2,q6,qZ,qY,kz⟩:=kC.three));(try (have kC:=(Blk.new _ 26 #[.bool false,.slice none 0 0,.slice none 0 0]).ext bD;obtain⟨k0,k1,k2,q6,qZ,qY,kz⟩:=kC.three));have lu:Hid (Ext w3 w8):=hid (by first|exact mA.out.trans bD|exact(mA.out.alloc _).trans bD);clear i0;obtain⟨t0,t1,t2,s0,s1,s2,tz⟩:=(dP.out.ext lu.out).three;clear dU))
  all_goals go_wp2_with fail
  all_goals go_meet
  all_goals first
   |(have eG:Blk w8 w7.heap.size 26 #[.bool false,.slice none 0 0,.slice none 0 0]:=kC;have hT:=((eG.set_ 0 (.bool f8)).set_ 1 (.slice G8 g8 j8)).set_ 2 (.slice Y8 y8 z8);exact⟨_,_,_,_,_,_,_,_,_,rfl,hT.cell 0,hT.cell 1,hT.cell 2,hT.lt,(by first|omega|(simp<;>omega)),(((R8.out.far (a:=⟨w7.heap.size,0,none⟩) (show w7.heap.size<_ by first|omega|(simp<;>omega)) (.bool f8)).far (a:=⟨w7.heap.size,1,none⟩) (show w7.heap.size<_ by first|omega|(simp<;>omega)) (.slice G8 g8 j8)).far (a:=⟨w7.heap.size,2,none⟩) (show w7.heap.size<_ by first|omega|(simp<;>omega)) (.slice Y8 y8 z8)),((((dP.out.ext lu.out).far (p:=⟨w7.heap.size,0,none⟩) (show w.heap.size+1≠_ by (try simp only)<;>omega) (.bool f8)).far (p:=⟨w7.heap.size,1,none⟩) (show w.heap.size+1≠_ by (try simp only)<;>omega) (.slice G8 g8 j8)).far (p:=⟨w7.heap.size,2,none⟩) (show w.heap.size+1≠_ by (try simp only)<;>omega) (.slice Y8 y8 z8)),((((aC.out.trans lu.out).setCell (p:=⟨w7.heap.size,0,none⟩) (show w.heap.size<=_ by (try simp only)<;>omega) (.bool f8)).setCell (p:=⟨w7.heap.size,1,none⟩) (show w.heap.size<=_ by (try simp only)<;>omega) (.slice G8 g8 j8)).setCell (p:=⟨w7.heap.size,2,none⟩) (show w.heap.size<=_ by (try simp only)<;>omega) (.slice Y8 y8 z8))⟩)
   |(have eG:Blk w8 w3.heap.size 26 #[.bool false,.slice none 0 0,.slice none 0 0]:=kC;have hT:=((eG.set_ 0 (.bool f8)).set_ 1 (.slice G8 g8 j8)).set_ 2 (.slice Y8 y8 z8);exact⟨_,_,_,_,_,_,_,_,_,rfl,hT.cell 0,hT.cell 1,hT.cell 2,hT.lt,(by first|omega|(simp<;>omega)),(((R8.out.far (a:=⟨w3.heap.size,0,none⟩) (show w3.heap.size<_ by first|omega|(simp<;>omega)) (.bool f8)).far (a:=⟨w3.heap.size,1,none⟩) (show w3.heap.size<_ by first|omega|(simp<;>omega)) (.slice G8 g8 j8)).far (a:=⟨w3.heap.size,2,none⟩) (show w3.heap.size<_ by first|omega|(simp<;>omega)) (.slice Y8 y8 z8)),((((dP.out.ext lu.out).far (p:=⟨w3.heap.size,0,none⟩) (show w.heap.size+1≠_ by (try simp only)<;>omega) (.bool f8)).far (p:=⟨w3.heap.size,1,none⟩) (show w.heap.size+1≠_ by (try simp only)<;>omega) (.slice G8 g8 j8)).far (p:=⟨w3.heap.size,2,none⟩) (show w.heap.size+1≠_ by (try simp only)<;>omega) (.slice Y8 y8 z8)),((((aC.out.trans lu.out).setCell (p:=⟨w3.heap.size,0,none⟩) (show w.heap.size<=_ by (try simp only)<;>omega) (.bool f8)).setCell (p:=⟨w3.heap.size,1,none⟩) (show w.heap.size<=_ by (try simp only)<;>omega) (.slice G8 g8 j8)).setCell (p:=⟨w3.heap.size,2,none⟩) (show w.heap.size<=_ by (try simp only)<;>omega) (.slice Y8 y8 z8))⟩)
   |(have hT:=Blk.new w8 26 #[.bool f8,.slice G8 g8 j8,.slice Y8 y8 z8];exact⟨_,_,_,_,_,_,_,_,_,rfl,hT.cell 0,hT.cell 1,hT.cell 2,hT.lt,(by first|omega|(simp<;>omega)),R8.out.ext ((Ext.refl w8).alloc _),(dP.out.ext lu.out).alloc _,(aC.out.trans lu.out).alloc _⟩)
 case rest=>
 obtain⟨gx,B,f8,g8,G8,j8,y8,Y8,z8,rfl,k0,k1,k2,kz,kZ,hI,hB,hE⟩:=hcut;have WI:=hid hB;have Wo:=hid hI;have Ww:=hid hE;clear t0 t1 t2 s0 s1 s2 tz i0;obtain⟨t0,t1,t2,s0,s1,s2,tz⟩:=hB.three;clear hB hI hE;go_wp2_with fail;obtain⟨aj,ac,hr2⟩:=Ah WI.out (.bool f8) (.slice G8 g8 j8) (.slice Y8 y8 z8);refine bodyPost_ret (v:= .tuple #[.agg #[.bool f8,.slice G8 g8 j8,.slice Y8 y8 z8],.bool true]) (by simp[results,Tryz.results13,go_sem,aj,ac,hr2]) rfl ?_
 exact⟨_,true,_,_,rfl,(((Wo.out.far (a:=⟨w.heap.size+1,0,none⟩) kZ (.bool f8)).far (a:=⟨w.heap.size+1,1,none⟩) kZ (.slice G8 g8 j8)).far (a:=⟨w.heap.size+1,2,none⟩) kZ (.slice Y8 y8 z8)).mono (by omega),fun _=>⟨jz.out,HR.out⟩,(((Ww.out.setCell (p:=⟨w.heap.size+1,0,none⟩) (Nat.le_succ _) (.bool f8)).setCell (p:=⟨w.heap.size+1,1,none⟩) (Nat.le_succ _) (.slice G8 g8 j8)).setCell (p:=⟨w.heap.size+1,2,none⟩) (Nat.le_succ _) (.slice Y8 y8 z8))⟩
theorem RL(w:World)(b:Bool)(m d:Value)(xs ys:List Nat)(N:Nat)(h:Arr w m xs)(h':Arr w d ys)(hN:1<=N)(jH:N<=1000):
  Calls Tryz.prog 13 #[.agg #[.bool b,m,d],.int .i64 (N:Int)] w (E0 N w):=by
 by_cases hx:xs.length<=N<;>by_cases hy:ys.length<=N
 ·rcases Nat.eq_zero_or_pos (val ys) with hz|hz
  ·exact Uo w b m d xs ys N h h' hN jH hx hy hz
  ·exact Un w b m d xs ys N h h' hN jH hx hy hz
 ·exact Up w b m d xs ys N h h' hN jH hx (by omega)
 ·exact Uq w b m d xs ys N h h' hN jH (by omega) hy
 ·exact Ur w b m d xs ys N h h' hN jH (by omega) (by omega)
theorem MK(n:Nat):n<2 ^ AG n:=by
 unfold AG;split
 ·simp[*]
 ·exact Nat.lt_log2_self
theorem SC{n k:Nat}(h:n<2 ^ k):AG n<=k:=by
 unfold AG;split
 ·omega
 ·rename_i h0;have:=(Nat.log2_lt h0).2 h;omega
theorem Fw{n L:Nat}(h:(Ac n).length<=L):AG n<=32*L:=by
 refine SC ?_
 have h1:=Cf (Cp n);rw[Ad]at h1;have h2:=DW h;rw[Nat.pow_mul];exact Nat.lt_of_lt_of_le h1 h2
theorem FU{b L:Nat}(h:b<=32*L):(Ac (2 ^ b)).length<=L+1:=by
 refine AE ?_
 have h1:2 ^ b<=2 ^ (32*L):=Nat.pow_le_pow_right (by omega) h;rw[Nat.pow_mul,show (2:Nat) ^ 32=4294967296 from rfl]at h1;rw[Nat.pow_succ];have:0<4294967296 ^ L:=Fg L;omega
theorem Mk(w:World)(v0:Value)(xs:List Nat)(h0:Arr w v0 xs)(hl:xs.length<=10000)(l7:0<val xs):
  Calls Tryz.prog 296 #[v0,.int .i64 2] w fun e w'=>∃v' r,e= .returned v'/\DD (val xs) r/\Own w.heap.size w' v' (Ac r)/\Ext w w':=by
 have H0:=hid h0;have hV:(Ac (val xs)).length<=10000:=Nat.le_trans (An h0.ok) hl;have cY:=hid (fun W=>F8 W 1 (by decide));have jB:=hid (fun W hx=>D8 W v0 xs (h0.ext hx) (by omega));have hB:=Fw hV;have hlt:=MK (val xs);have ou:=hid (show val xs<2 ^ ((AG (val xs)+1) / 2)*2 ^ ((AG (val xs)+1) / 2) from Nat.lt_of_lt_of_le hlt (Qf _));obtain⟨l0,A0,c0,rfl⟩:=h0.shape;clear h0 hlt;have mU:=hid hl;have V1:=hid l7;have fZ:=hid hV;clear hl l7 hV;generalize AG (val xs)=B at *;obtain⟨S,hS⟩:∃S,S=(B+1) / 2:=⟨_,rfl⟩;have iB:Int.tdiv ((B:Int)+2-1) 2=(S:Int):=by rw[Int.tdiv_eq_ediv_of_nonneg (by omega)];omega
 have nB:((B:Int)+2-1) / 2=(S:Int):=by omega
 have nA:Int.tdiv ((B:Int)+1) 2=(S:Int):=by rw[Int.tdiv_eq_ediv_of_nonneg (by omega)];omega
 have ZS:((B:Int)+1) / 2=(S:Int):=by omega
 have hBi:(B:Int)<=320000:=by omega
 have xt:(0:Int)<=(B:Int):=by omega
 rw[<-hS]at ou;have pM:=hid (fun W m a=>KZ W m (Ac 1) S a (by rw[C4];simp) (by omega));rw[Ad,Nat.one_mul]at pM;have mn:Hid ((Ac (2 ^ S)).length<=10001):=hid (FU (by omega));clear hS hB;go_enter Tryz.func296,Tryz.ntmps296;go_wp2_with fail;refine(cY.out _).mono ?_
 rintro e w1 ⟨r0,rfl,aB,hx0⟩;have R0:=hid aB;have ar:=hid hx0;obtain⟨g0,G0,j0,rfl⟩:=aB.shape;clear aB hx0;go_wp2_with fail;refine(jB.out _ ar.out).mono ?_
 rintro e w2 ⟨rfl,rfl⟩;go_wp2_with fail;refine(pM.out _ _ R0.out.arr).mono ?_
 rintro e w3 ⟨r1,rfl,aR,ag⟩;have R1:=hid (aR.mono ar.out.size);have aC:=hid (ar.out.trans ag);obtain⟨g1,G1,j1,rfl⟩:=aR.shape;clear aR ag iB nB nA ZS hBi xt cY jB pM;go_wp2_with fail
 go_loopg [5] (2 ^ S) (fun gh s5 wr=>∃(x g5 c5:Nat) (A5:Option Addr),gh=x/\s5= .slice A5 g5 c5/\0<x/\Own w.heap.size wr s5 (Ac x)/\(∀s,s*s<=val xs->s<=x)/\(Ac x).length<=10001/\Ext w wr)
 case atStart=>exact⟨2 ^ S,g1,j1,G1,rfl,rfl,Nat.pow_pos (by omega),R1.out,Lf ou.out,mn.out,aC.out⟩
 case round=>
  obtain⟨x,g5,c5,A5,jn,rfl,hx0,ho,eV,lX,ah⟩:=hrel;have jb:=hid jn;have HO:=hid ho;have HX:=hid ah;have oI:=hid eV;have HXL:=hid lX;have cq:=hid hx0;have HP:=hid (fun W m a=>Ff W m (Ac x) 1 a (by omega) (by omega));rw[Ad,Nat.pow_one]at HP;have HD:=hid (fun W m a b=>Eh W (.slice A0 l0 c0) m xs (Ac x) a b (by have:=mU.out;omega) (by omega) (by rw[Ad];omega));unfold GY at HD;rw[Ad]at HD;have kG:=hid (fun W m a=>EN W m (Ac x) 1 0 a (by omega) (by decide) (by decide));rw[Ad,Nat.mul_one,Nat.add_zero]at kG;have ru:(Ac (val xs / x)).length<=10000:=Nat.le_trans (Ar (Nat.div_le_self _ _)) fZ.out;have HA:=hid (fun W m m' a b=>OT W m m' (Ac x) (Ac (val xs / x)) a b (by omega) (by omega));rw[Ad,Ad]at HA;have jU:(Ac (x+val xs / x)).length<=20002:=by have:=Cb lX ru;omega
  have HQ:=hid (fun W m a=>Jc W m (Ac (x+val xs / x)) 2 a (by omega) (by decide) (by decide));rw[Ad]at HQ;have pn:(Ac ((x+val xs / x) / 2)).length<=20002:=Nat.le_trans (Ar (Nat.div_le_self _ _)) jU;have HC:=hid (fun W m m' a b=>Em W m m' (Ac ((x+val xs / x) / 2)) (Ac x) a b (by omega) (by omega));rw[Ad,Ad]at HC;have qf:= @Mj (val xs) x hx0;have qj:=fun s=> @NO (val xs) x s hx0
  clear jn ho ah eV hx0 ru jU pn lX;generalize (x+val xs / x) / 2=y at *;have hcn:= @D7 y x;generalize BS y x=cc at *;have HK:=hid (And.intro qf (And.intro qj hcn));have js:cc<0\/0<=cc:=by omega
  clear qf qj hcn;go_wp2_with fail;refine(HP.out _ _ HO.out.arr).mono ?_
  rintro e w4 ⟨r4,rfl,fi,bc⟩;have R4:=hid fi;have bw:=hid (HX.out.trans bc);have mq:=hid (HO.out.ext bc);obtain⟨g4,G4,j4,rfl⟩:=fi.shape;clear fi bc;go_wp2_with fail;refine(HD.out _ _ (H0.out.ext bw.out) R4.out.arr).mono ?_
  rintro e w5 ⟨r5,r6,rfl,dV,ka,hx5⟩;have R5:=hid dV;have dr:=hid (bw.out.trans hx5);have qK:=hid (mq.out.ext hx5);obtain⟨g6,G6,j6,rfl⟩:=dV.shape;obtain⟨g7,G7,j7,rfl⟩:=ka.shape;clear dV ka hx5;go_wp2_with fail;refine(kG.out _ _ qK.out.arr).mono ?_
  rintro e w6 ⟨r8,rfl,dU,cZ⟩;have R8:=hid dU;have dB:=hid (dr.out.trans cZ);have gD:=hid (qK.out.ext cZ);have R56:=hid (R5.out.ext cZ);obtain⟨g8,G8,j8,rfl⟩:=dU.shape;clear dU cZ;go_wp2_with fail;refine(HA.out _ _ _ R8.out.arr R56.out.arr).mono ?_
  rintro e w7 ⟨r9,rfl,iL,bx⟩;have R9:=hid iL;have dZ:=hid (dB.out.trans bx);have tl:=hid (gD.out.ext bx);obtain⟨g9,G9,j9,rfl⟩:=iL.shape;clear iL bx;go_wp2_with fail;refine(HQ.out _ _ R9.out.arr).mono ?_
  rintro e w8 ⟨ra,rfl,zt,bD⟩;have dq:=hid (dZ.out.trans bD);have V7:=hid (tl.out.ext bD);have RA:=hid (zt.mono dZ.out.size);obtain⟨ga,GA,ja,rfl⟩:=zt.shape;clear zt bD;rcases js with hc1|hc1
  ·have cW:¬(0:Int)<=cc:=by omega
   go_wp2_with fail;refine(HC.out _ _ _ RA.out.arr V7.out.arr).mono ?_
   rintro e w9 ⟨rfl,dn⟩;have ei:=hid (dq.out.trans dn);have RA9:=hid (RA.out.ext dn);clear dn;go_wp2_with fail;have yi:y<x:=HK.out.2.2.1 hc1;have hy0:0<y:=by
    have h1:=HK.out.2.1 1 (by have:=V1.out;omega);omega
   go_roundg y
   case rel=>exact⟨y,ga,ja,GA,rfl,rfl,hy0,RA9.out,HK.out.2.1,Nat.le_trans (Ar (Nat.le_of_lt yi)) HXL.out,ei.out⟩
   case measure=>rw[jb.out];exact yi
  ·have cW:(0:Int)<=cc:=hc1;go_wp2_with fail;refine(HC.out _ _ _ RA.out.arr V7.out.arr).mono ?_
   rintro e w9 ⟨rfl,dn⟩;have ei:=hid (dq.out.trans dn);have HO9:=hid (V7.out.ext dn);clear dn;go_wp2_with fail;go_ret;have lW:x<=y:=by
    rcases Nat.lt_or_ge y x with h|h
    ·have:=HK.out.2.2.2 h;omega
    ·exact h
   exact⟨_,x,rfl,NP oI.out (HK.out.1 lW),HO9.out,ei.out⟩
theorem NE(w:World)(v0:Value)(xs:List Nat)(h0:Arr w v0 xs)(n0:xs.length<=10000)(hz:val xs=0):
  Calls Tryz.prog 279 #[v0] w fun e w'=>e= .returned (.tuple #[.slice none 0 0,.slice none 0 0])/\Ext w w':=by
 have H0:=hid h0;have cR:=hid (fun W m a=>Bq W m xs a (by omega));have aE:(Ac (val xs)).length=0:=by rw[hz];rfl
 obtain⟨l0,A0,c0,rfl⟩:=h0.shape;clear h0 hz;go_enter Tryz.func279,Tryz.ntmps279;go_wp2_with fail;have aq:=(Ext.refl w);have am:w.heap.size=w.heap.size:=by simp
 have HX:=hid (Ext.refl w);clear aq am;refine(cR.out _ _ (H0.out.ext HX.out)).mono ?_
 rintro e w1 ⟨r0,rfl,aB,hx0⟩;have HX:=hid (HX.out.trans hx0);have dY:=hid hx0.size;have R0:=hid aB;obtain⟨g0,G0,j0,rfl⟩:=aB.shape;clear hx0 aB;have ed:=R0.out.arr.len;have er:g0=0:=ed.trans aE;subst er;clear ed aE;go_wp2_with fail;go_ret2;exact⟨rfl,HX.out⟩
theorem PJ(w:World)(v0:Value)(xs:List Nat)(h0:Arr w v0 xs)(n0:xs.length<=10000)(hz:0<val xs):
  Calls Tryz.prog 279 #[v0] w fun e w'=>∃v' u' r,e= .returned (.tuple #[v',u'])/\DD (val xs) r/\Own w.heap.size w' v' (Ac r)/\Own w.heap.size w' u' (Ac (val xs-r*r))/\Ext w w':=by
 have H0:=hid h0;have cR:=hid (fun W m a=>Bq W m xs a (by omega));have hV:(Ac (val xs)).length<=10000:=Nat.le_trans (An h0.ok) n0;have fF:=hid (fun W m a=>Mk W m (Ac (val xs)) a hV (by rw[Ad];omega));rw[Ad]at fF;have HSU:=hid (fun W m m' (r:Nat) a b (hr:(Ac (r*r)).length<=536870912) (cp:r*r<=val xs)=>Le W m m' (Ac (val xs)) (Ac (r*r)) a b (by omega) hr (by rw[Ad,Ad];exact cp));have gO:=hid (fun W m r a hr=>IW W m (Ac r) a hr);have hl1:0<(Ac (val xs)).length:=by rw[List.length_pos_iff];intro e;rw[Br]at e;omega
 have fZ:=hid hV;obtain⟨l0,A0,c0,rfl⟩:=h0.shape;clear h0 hz hV n0;go_enter Tryz.func279,Tryz.ntmps279;go_wp2_with fail;have aq:=(Ext.refl w);have am:w.heap.size=w.heap.size:=by simp
 have HX:=hid (Ext.refl w);clear aq am;refine(cR.out _ _ (H0.out.ext HX.out)).mono ?_
 rintro e w1 ⟨r0,rfl,aB,hx0⟩;have HX:=hid (HX.out.trans hx0);have dY:=hid hx0.size;have R0:=hid aB;obtain⟨g0,G0,j0,rfl⟩:=aB.shape;clear hx0 aB;have ed:=R0.out.arr.len;have xk:0<g0:=by omega
 have sb:((g0:Int) == 0)=false:=by rw[beq_eq_false_iff_ne];omega
 clear ed hl1 xk;go_wp2_with fail;refine(fF.out _ _ R0.out.arr).mono ?_
 rintro e w2 ⟨r1,r,rfl,eF,aR,ag⟩;have aI:=hid (HX.out.trans ag);have R1:=hid (aR.mono HX.out.size);have t9:=hid (R0.out.ext ag);have ky:(Ac r).length<=10000:=Nat.le_trans (Ar eF.le) fZ.out;have ny:(Ac (r*r)).length<=10000:=Nat.le_trans (Ar eF.1) fZ.out;have HQ:=hid (fun W m a=>gO.out W m r a (by omega));rw[Ad]at HQ;have HU:=hid (fun W m m' a b=>HSU.out W m m' r a b (by omega) eF.1);rw[Ad,Ad]at HU;have HS:=hid eF;obtain⟨g1,G1,j1,rfl⟩:=aR.shape;clear aR ag eF ky ny;go_wp2_with fail;refine(HQ.out _ _ R1.out.arr).mono ?_
 rintro e w3 ⟨r2,rfl,ax,ae⟩;have aC:=hid (aI.out.trans ae);have R13:=hid (R1.out.ext ae);have vS:=hid (t9.out.ext ae);have R2:=hid ax;obtain⟨g2,G2,j2,rfl⟩:=ax.shape;clear ax ae;go_wp2_with fail;refine(HU.out _ _ _ vS.out.arr R2.out.arr).mono ?_
 rintro e w4 ⟨r3,rfl,cB,ab⟩;have bw:=hid (aC.out.trans ab);have VA:=hid (R13.out.ext ab);have R3:=hid (cB.mono aC.out.size);obtain⟨g3,G3,j3,rfl⟩:=cB.shape;clear cB ab;go_wp2_with fail;go_ret2;exact⟨_,_,r,rfl,HS.out,VA.out,R3.out,bw.out⟩
def JQ(V:Nat)(w:World)(e:Ending)(w':World):Prop:=
 ∃v' r,DD V r/\e= .returned (.tuple #[v',.bool (decide (V=r*r))])/\(V=r*r->Own w.heap.size w' v' (Ac r))/\(∃n A c,v'= .slice A n c)/\Ext w w'
theorem Ia(w:World)(v0:Value)(xs:List Nat)(h0:Arr w v0 xs)(n0:xs.length<=10000):Calls Tryz.prog 254 #[v0] w (JQ (val xs) w):=by
 rcases Nat.eq_zero_or_pos (val xs) with hz|hz
 ·have HS:=hid (NE w v0 xs h0 n0 hz);have HZ:=hid hz;obtain⟨l0,A0,c0,rfl⟩:=h0.shape;clear h0 hz;go_enter Tryz.func254,Tryz.ntmps254;go_wp2_with fail;refine HS.out.mono ?_
  rintro e w1 ⟨rfl,hx⟩;go_wp2_with fail;go_ret2;exact⟨_,0,by rw[HZ.out];exact DD.zero,by rw[HZ.out];rfl,fun _=>Own.none_ _ _,⟨0,none,0,rfl⟩,hx⟩
 ·have HS:=hid (PJ w v0 xs h0 n0 hz);obtain⟨l0,A0,c0,rfl⟩:=h0.shape;clear h0 hz;go_enter Tryz.func254,Tryz.ntmps254;go_wp2_with fail;refine HS.out.mono ?_
  rintro e w1 ⟨v',u',r,rfl,eF,hi,ic,hx⟩;have gO:=hid eF;have HI:=hid hi;have HX:=hid hx;have aF:=ic.arr;obtain⟨g1,G1,j1,rfl⟩:=hi.shape;obtain⟨g2,G2,j2,rfl⟩:=ic.shape;have hl:=ic.arr.len;by_cases hV:val xs=r*r
  ·have hd:decide (val xs=r*r)=true:=decide_eq_true hV;have HD:=hid hd;rw[hV,Nat.sub_self,Bb,List.length_nil]at hl;subst hl;clear aF hi ic hx eF hV hd;go_wp2_with fail;go_ret2;exact⟨.slice G1 g1 j1,r,gO.out,by rw[HD.out];rfl,fun _=>HI.out,⟨_,_,_,rfl⟩,HX.out⟩
  ·have HD:=hid (decide_eq_false hV);have hp:0<g2:=by
    rw[hl,List.length_pos_iff];intro e;rw[Br]at e;exact hV (eF.rest.1 e)
   have hne:((g2:Int) != 0)=true:=by rw[bne_iff_ne];omega
   have HV:=hid hV;clear aF hi ic hx eF hV hl hp;go_wp2_with fail;go_ret2;exact⟨.slice none 0 0,r,gO.out,by rw[HD.out];rfl,fun e=>absurd e HV.out,⟨0,none,0,rfl⟩,HX.out⟩
def Ea(p:Int)(q:Nat)(w:World)(e:Ending)(w':World):Prop:=
 ∃v',Ext w w'/\((∃r s:Nat,p=((r*r:Nat):Int)/\q=s*s/\e= .returned (.tuple #[v',.bool true])/\Ag w.heap.size w' v' (r:Int) s)\/
  (¬(∃r s:Nat,p=((r*r:Nat):Int)/\q=s*s)/\e= .returned (.tuple #[v',.bool false])/\Ag w.heap.size w' v' 0 0))
theorem Pa(w:World)(v0:Value)(p:Int)(q:Nat)(h0:Ao w v0 p q)(t8:(Ac p.natAbs).length<=10000)(xu:(Ac q).length<=10000)(hp:p<0):
  Calls Tryz.prog 219 #[v0] w (Ea p q w):=by
 have H0:=hid h0;obtain⟨b0,l0,A0,c0,k0,D0,e0,rfl⟩:=h0.shape;have ck:=h0.sign;rw[decide_eq_true hp]at ck;subst ck;have HP:=hid hp;clear h0 hp;go_enter Tryz.func219,Tryz.ntmps219;go_wp2_with fail;refine bodyPost_ret (v:= .tuple #[.agg #[.bool false,.slice none 0 0,.slice none 0 0],.bool false]) (by simp[results,Tryz.results219,go_sem]) rfl ?_
 exact⟨_,((Ext.refl w).alloc _).alloc _,.inr ⟨by rintro⟨r,s,h1,_⟩;have:=HP.out;omega,rfl,Ag.zero _ _⟩⟩
theorem O9(w:World)(v0:Value)(p:Int)(q:Nat)(h0:Ao w v0 p q)(n0:(Ac p.natAbs).length<=10000)(m0:(Ac q).length<=10000)(hp:¬p<0):
  Calls Tryz.prog 219 #[v0] w (Ea p q w):=by
 have H0:=hid h0;have jx:=hid (fun W m a=>Ia W m (Ac p.natAbs) a (by omega));have ox:=hid (fun W m a=>Ia W m (Ac q) a (by omega));unfold JQ at jx ox;rw[Ad]at jx ox;have kh:=hid n0;have ue:=hid m0;obtain⟨b0,l0,A0,c0,k0,D0,e0,rfl⟩:=h0.shape;have ck:=h0.sign;rw[decide_eq_false hp]at ck;subst ck;have HP:=hid hp;have eZ:=hid h0.num;clear h0 hp n0 m0;have fB:((p.natAbs:Nat):Int)=p:=by have:=HP.out;omega
 have ip:=hid fB;clear fB;generalize p.natAbs=m at *;go_enter Tryz.func219,Tryz.ntmps219;go_wp2_with fail;have hb0:=((Blk.new w 26 #[.bool false,.slice A0 l0 c0,.slice D0 k0 e0]).alloc (.cells #[.bool false,.slice none 0 0,.slice none 0 0] 26));have al:=(Blk.new (w.alloc (.cells #[.bool false,.slice A0 l0 c0,.slice D0 k0 e0] 26)) 26 #[.bool false,.slice none 0 0,.slice none 0 0]);have aq:=(((Ext.refl w).alloc (.cells #[.bool false,.slice A0 l0 c0,.slice D0 k0 e0] 26)).alloc (.cells #[.bool false,.slice none 0 0,.slice none 0 0] 26));have am:w.heap.size+1+1=((w.alloc (.cells #[.bool false,.slice A0 l0 c0,.slice D0 k0 e0] 26)).alloc (.cells #[.bool false,.slice none 0 0,.slice none 0 0] 26)).heap.size:=by simp
 simp only[World.size_alloc]at al;generalize (w.alloc (.cells #[.bool false,.slice A0 l0 c0,.slice D0 k0 e0] 26)).alloc (.cells #[.bool false,.slice none 0 0,.slice none 0 0] 26)=wo at *;have ak:=hid hb0;have ai:=hid al;have HX:=hid aq;have HZ:Hid (w.heap.size+1+1<=wo.heap.size):=hid (by omega);clear aq am hb0 al;refine(jx.out _ _ (eZ.out.ext HX.out)).mono ?_
 rintro e w1 ⟨r0,r,jT,rfl,aB,⟨g0,G0,j0,rfl⟩,hx0⟩;have ar:=hid (HX.out.trans hx0);have dl:=hid (ai.out.ext hx0);have dm:=hid (ak.out.ext hx0);have R0:=hid aB;have ov:=hid jT;have dY:=hid hx0.size;clear aB jT hx0;have q0:=dm.out.three;go_wp2_with fail;refine(ox.out _ _ (H0.out.den.ext ar.out)).mono ?_
 rintro e w2 ⟨r1,s,jS,rfl,aR,⟨g1,G1,j1,rfl⟩,ag⟩;have aI:=hid (ar.out.trans ag);have cH:=hid (dl.out.ext ag);have gQ:=hid ag;have R1:=hid aR;have fM:=hid jS;clear aR jS ag q0;have t0:=cH.out.three;by_cases hm:m=r*r
 ·have iX:decide (m=r*r)=true:=decide_eq_true hm;rw[iX];by_cases hq:q=s*s
  ·have ee:decide (q=s*s)=true:=decide_eq_true hq;rw[ee];have lf:=hid ((R0.out hm).ext gQ.out);have pN:=hid (R1.out hq);have HM:=hid hm;have HQ:=hid hq;have ky:(Ac r).length<=10000:=Nat.le_trans (Ar ov.out.le) (by rw[hm];rw[<-hm];exact kh.out);have HI:=hid (fun W m a=>Cc W false m (Ac r) a (by omega));rw[Ad,show sgn false r=(r:Int) from rfl]at HI;clear hm hq iX ee ky;go_wp2_with fail;refine(HI.out _ _ lf.out.arr).mono ?_
   rintro e w3 ⟨r2,rfl,ax,ae⟩;have aC:=hid (aI.out.trans ae);have dP:=hid (cH.out.ext ae);have te:=hid (pN.out.ext ae);have sO:=hid gQ.out.size;have R2:=hid ax;obtain⟨f2,g2,G2,j2,rfl⟩:=ax.shape;clear ax ae t0;have t0:=dP.out.three;go_wp2_with fail;obtain⟨aj,ac,hr2⟩:=Ah dP.out (.bool f2) (.slice G2 g2 j2) (.slice G1 g1 j1);refine bodyPost_ret (v:= .tuple #[.agg #[.bool f2,.slice G2 g2 j2,.slice G1 g1 j1],.bool true]) (by simp[results,Tryz.results219,go_sem,aj,ac,hr2]) rfl ?_
   refine⟨_,((aC.out.setCell (Nat.le_succ _) _).setCell (Nat.le_succ _) _).setCell (Nat.le_succ _) _,.inl ⟨r,s,by rw[<-ip.out,HM.out],HQ.out,rfl,?_⟩⟩;exact Ag.put (w1:=wo) (Ag.mk (R2.out.mono (by have:=dY.out;have:=sO.out;omega)) (te.out.mono dY.out)) (by have:=HZ.out;omega) (by have:=HZ.out;omega)
  ·have ee:decide (q=s*s)=false:=decide_eq_false hq;rw[ee];have HQ:=hid hq;clear hm hq iX ee;go_wp2_with fail;obtain⟨aj,ac,hr2⟩:=Ah cH.out (.bool false) (.slice none 0 0) (.slice none 0 0);refine bodyPost_ret (v:= .tuple #[.agg #[.bool false,.slice none 0 0,.slice none 0 0],.bool false]) (by simp[results,Tryz.results219,go_sem,aj,ac,hr2]) rfl ?_
   refine⟨_,((aI.out.setCell (Nat.le_succ _) _).setCell (Nat.le_succ _) _).setCell (Nat.le_succ _) _,.inr ⟨?_,rfl,Ag.zero _ _⟩⟩;rintro⟨r',s',_,h2⟩;refine HQ.out ?_
   have h3:=fM.out.uniq (by rw[h2];exact DD.sq s');rw[h3];exact h2
 ·have iX:decide (m=r*r)=false:=decide_eq_false hm;rw[iX];have HM:=hid hm;clear hm iX;go_wp2_with fail;obtain⟨aj,ac,hr2⟩:=Ah cH.out (.bool false) (.slice none 0 0) (.slice none 0 0);refine bodyPost_ret (v:= .tuple #[.agg #[.bool false,.slice none 0 0,.slice none 0 0],.bool false]) (by simp[results,Tryz.results219,go_sem,aj,ac,hr2]) rfl ?_
  refine⟨_,((aI.out.setCell (Nat.le_succ _) _).setCell (Nat.le_succ _) _).setCell (Nat.le_succ _) _,.inr ⟨?_,rfl,Ag.zero _ _⟩⟩;rintro⟨r',s',h1,_⟩;refine HM.out ?_
  have h2:m=r'*r':=by have:=ip.out;omega
  have h3:=ov.out.uniq (by rw[h2];exact DD.sq r');rw[h3];exact h2
theorem Pb(w:World)(v0:Value)(p:Int)(q:Nat)(h0:Ao w v0 p q)(n0:(Ac p.natAbs).length<=10000)(m0:(Ac q).length<=10000):
  Calls Tryz.prog 219 #[v0] w (Ea p q w):=by
 by_cases hp:p<0
 ·exact Pa w v0 p q h0 n0 m0 hp
 ·exact O9 w v0 p q h0 n0 m0 hp
end Big
end Go.Proofs.YtkoaogkknnelaaaGreatDoor
