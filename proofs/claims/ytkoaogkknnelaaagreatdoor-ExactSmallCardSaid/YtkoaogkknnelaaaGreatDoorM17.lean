import Derived.Test.YtkoaogkknnelaaaGreatDoorM16
import Derived.Lib.ConvBytes
import Derived.Laws.Closers25
set_option linter.unusedVariables false
set_option linter.unusedSimpArgs false
set_option maxHeartbeats 1000000
set_option maxRecDepth 100000
namespace Go.Proofs.YtkoaogkknnelaaaGreatDoor
namespace Big
open Lib (hid)
open Go.RowKit
theorem FV{g:Nat}(h:0<g):0<(Ac g).length:=List.length_pos_iff.2 (fun e=>by rw[Br]at e;omega)
theorem Rj(w:World)(v u:Value)(X Y:Nat)(h:Arr w v (Ac X))(h':Arr w u (Ac Y))(hn:(Ac X).length<=134217728)(bu:(Ac Y).length<=134217728):
  Calls Tryz.prog 167 #[v,u] w fun e w'=>∃v',e= .returned v'/\Arr w' v' (Ac (Nat.gcd X Y))/\Ext w w':=by
 have HA:=hid h;have HB:=hid h';obtain⟨n1,A1,c1,rfl⟩:=h.shape;obtain⟨n2,A2,c2,rfl⟩:=h'.shape;clear h h';go_enter Tryz.func167,Tryz.ntmps167;go_wp2_with fail
 go_loopg [0,1] Y (fun gh s0 s1 wr=>∃(g x:Nat) (na:Nat) (Aa:Option Addr) (ca nb:Nat) (Ab:Option Addr) (cb:Nat),gh=g/\s0= .slice Aa na ca/\s1= .slice Ab nb cb/\Arr wr s0 (Ac x)/\Arr wr s1 (Ac g)/\Nat.gcd x g=Nat.gcd X Y/\(Ac x).length<=134217728/\(Ac g).length<=134217728/\Ext w wr)
 case atStart=>exact⟨Y,X,n1,A1,c1,n2,A2,c2,rfl,rfl,rfl,HA.out,HB.out,rfl,hn,bu,Ext.refl _⟩
 case round=>
  obtain⟨g,x,na,Aa,ca,nb,Ab,cb,jn,rfl,rfl,nE,nD,hg,hlx,rL,ah⟩:=hrel;have jb:=hid jn;have HG:=hid hg;have lL:=hid ah;have V6:=hid nD;have hnb:=nD.len;clear jn hg ah HA HB;rcases Nat.eq_zero_or_pos g with h0|h0
  ·subst h0;rw[Bb,List.length_nil]at hnb;subst hnb;have HV:Hid (Arr wr (.slice Aa na ca) (Ac (Nat.gcd X Y))):=hid (by
    have h1:=HG.out;rw[Nat.gcd_zero_right]at h1;rw[<-h1];exact nE)
   clear nE nD;go_wp2_with fail;go_ret;exact⟨_,rfl,HV.out,lL.out⟩
  ·have hl1:0<nb:=by rw[hnb];exact FV h0
   have HD:=hid (H9 wr _ _ _ _ nE nD hlx rL (by rw[Ad];exact h0));rw[Ad,Ad]at HD;have gp:=Nat.mod_lt x h0;have ze:=Nat.le_trans (Ar (Nat.le_of_lt gp)) rL;have kj:=hid (show Nat.gcd g (x % g)=Nat.gcd X Y by rw[<-MD,HG.out]);have hb0:(0:Int)<(nb:Int):=by omega
   clear nE nD hnb;go_wp2_with fail;refine HD.out.mono ?_
   rintro e w3 ⟨v3,u3,rfl,nA,bg,ab⟩;have a8:=hid (V6.out.ext ab);have eI:=hid bg;have aC:=hid (lL.out.trans ab);obtain⟨n3,A3,c3,rfl⟩:=nA.arr.2.shape;obtain⟨n4,A4,c4,rfl⟩:=bg.2.shape;clear nA bg ab;go_wp2_with fail
   go_roundg (x % g)
   case rel=>exact⟨x % g,g,nb,Ab,cb,n4,A4,c4,rfl,rfl,rfl,a8.out,eI.out,kj.out,rL,ze,aC.out⟩
   case measure=>rw[jb.out];exact gp
theorem L4(w:World)(v u:Value)(X Y:Nat)(h:Arr w v (Ac X))(h':Arr w u (Ac Y))(hn:(Ac X).length<=134217728)(bu:(Ac Y).length<=134217728)(hy:0<Y):
  Calls Tryz.prog 168 #[v,u] w fun e w'=>∃v',e= .returned v'/\Own w.heap.size w' v' (Ac (X / Y))/\Ext w w':=by
 have HD:=hid (H9 w v u _ _ h h' hn bu (by rw[Ad];exact hy));rw[Ad,Ad]at HD;clear h h';go_enter Tryz.func168,Tryz.ntmps168;go_wp2_with fail;refine HD.out.mono ?_
 rintro e w3 ⟨v3,u3,rfl,nA,bg,ab⟩;have HQ3:=hid nA;have aC:=hid ab;obtain⟨n3,A3,c3,rfl⟩:=nA.arr.2.shape;obtain⟨n4,A4,c4,rfl⟩:=bg.2.shape;clear nA bg ab;go_wp2_with fail;go_ret;exact⟨_,rfl,HQ3.out,aC.out⟩
theorem K5(w:World)(v:Value)(A:Option Addr)(c:Nat):
  Calls Tryz.prog 121 #[v,.slice A 0 c] w fun e w'=>e= .returned (.tuple #[.slice none 0 0,.slice none 0 0,.bool false])/\w=w':=by
 go_enter Tryz.func121,Tryz.ntmps121;go_wp2_with fail;go_ret3;exact⟨rfl,rfl⟩
def SJ(X Y:Nat)(w:World)(e:Ending)(w':World):Prop:=
 ∃v' u',e= .returned (.tuple #[v',u',.bool true])/\Own w.heap.size w' v' (Ac (X / Nat.gcd X Y))/\Own w.heap.size w' u' (Ac (Y / Nat.gcd X Y))/\Ext w w'
theorem L3(w:World)(v u:Value)(X Y:Nat)(h:Arr w v (Ac X))(h':Arr w u (Ac Y))(hn:(Ac X).length<=134217728)(bu:(Ac Y).length<=134217728)(hy:0<Y):
  Calls Tryz.prog 121 #[v,u] w (SJ X Y w):=by
 have HG:=hid (Rj w v u X Y h h' hn bu);have lE:0<Nat.gcd X Y:=Nat.gcd_pos_of_pos_right _ hy;have ed:(Ac (Nat.gcd X Y)).length<=134217728:=Nat.le_trans (Ar (Nat.gcd_le_right _ hy)) bu;have iH:=hid (fun W z hx a=>L4 W v z X (Nat.gcd X Y) (h.ext hx) a hn ed lE);have mW:=hid (fun W z hx a=>L4 W u z Y (Nat.gcd X Y) (h'.ext hx) a bu ed lE);obtain⟨nv,Av,cv,rfl⟩:=h.shape;obtain⟨nu,Au,cu,rfl⟩:=h'.shape;have hl:=h'.len;have gw:=FV hy;rw[<-hl]at gw;have jj:((nu:Int) == 0)=false:=by rw[beq_eq_false_iff_ne];omega
 clear h h' hn bu ed hl lE gw;go_enter Tryz.func121,Tryz.ntmps121;go_wp2_with fail;refine HG.out.mono ?_
 rintro e w1 ⟨v1,rfl,dt,ag⟩;have ar:=hid ag;have fx:=hid dt;obtain⟨n1,A1,c1,rfl⟩:=dt.2.shape;clear dt ag;go_wp2_with fail;refine(iH.out _ _ ar.out fx.out).mono ?_
 rintro e w2 ⟨v2,rfl,cU,ae⟩;have aI:=hid (ar.out.trans ae);have d9:=hid (cU.mono ar.out.size);have mr:=hid (fx.out.ext ae);obtain⟨n2,A2,c2,rfl⟩:=cU.shape;clear cU ae;go_wp2_with fail;refine(mW.out _ _ aI.out mr.out).mono ?_
 rintro e w3 ⟨v3,rfl,iK,ab⟩;have aC:=hid (aI.out.trans ab);have pd:=hid (iK.mono aI.out.size);have tm:=hid (d9.out.ext ab);obtain⟨n3,A3,c3,rfl⟩:=iK.shape;clear iK ab;go_wp2_with fail;go_ret3;exact⟨_,_,rfl,tm.out,pd.out,aC.out⟩
def GF(x y:Int):Int:=sgn (decide (x<0) != decide (y<0)) (x.natAbs / Nat.gcd x.natAbs y.natAbs)
def GG(x y:Int):Nat:=y.natAbs / Nat.gcd x.natAbs y.natAbs
theorem Nx(w:World)(v u:Value)(x:Int)(h:Ap w v x)(h':Ap w u 0):
  Calls Tryz.prog 63 #[v,u] w fun e w'=>∃v',e= .returned (.tuple #[v',.int .i64 2])/\Ag w.heap.size w' v' 0 0/\Ext w w':=by
 obtain⟨b,n,A,c,rfl⟩:=h.shape;obtain⟨b',n',A',c',rfl⟩:=h'.shape;have hl:=h'.mag.len;rw[show (0:Int).natAbs=0 from rfl,Bb,List.length_nil]at hl;subst hl;clear h h';go_enter Tryz.func63,Tryz.ntmps63;go_wp2_with fail;refine(K5 _ _ _ _).mono ?_
 rintro e w1 ⟨rfl,rfl⟩;go_wp2_with fail;refine bodyPost_ret (v:= .tuple #[.agg #[.bool false,.slice none 0 0,.slice none 0 0],.int .i64 2]) (by simp[results,Tryz.results63,go_sem]) rfl ?_
 exact⟨_,rfl,Ag.zero _ _,(((Ext.refl w).alloc _).alloc _).alloc _⟩
theorem Hi(w:World)(v u:Value)(x y:Int)(h:Ap w v x)(h':Ap w u y)(hn:(Ac x.natAbs).length<=134217728)(bu:(Ac y.natAbs).length<=134217728)(hy:y≠0):
  Calls Tryz.prog 63 #[v,u] w fun e w'=>∃v',e= .returned (.tuple #[v',.int .i64 0])/\Ag w.heap.size w' v' (GF x y) (GG x y)/\Ext w w':=by
 obtain⟨b,n,A,c,rfl⟩:=h.shape;obtain⟨b',n',A',c',rfl⟩:=h'.shape;have HL:=hid (fun W hx=>L3 W (.slice A n c) (.slice A' n' c') x.natAbs y.natAbs (h.mag.ext hx) (h'.mag.ext hx) hn bu (by omega));have HI:=hid (fun W m a=>BL W (b != b') m (Ac (x.natAbs / Nat.gcd x.natAbs y.natAbs)) a (Nat.le_trans (Ar (Nat.div_le_self _ _)) (by omega)));rw[Ad]at HI;have HS:=hid h.sign;have HS':=hid h'.sign;clear h h' hn bu;go_enter Tryz.func63,Tryz.ntmps63;go_wp2_with fail;have hb0:=((Blk.new w 24 #[.bool b,.slice A n c]).alloc (.cells #[.bool b',.slice A' n' c'] 24)).alloc (.cells #[.bool false,.slice none 0 0,.slice none 0 0] 26);have al:=(Blk.new (w.alloc (.cells #[.bool b,.slice A n c] 24)) 24 #[.bool b',.slice A' n' c']).alloc (.cells #[.bool false,.slice none 0 0,.slice none 0 0] 26);have hb2:=Blk.new ((w.alloc (.cells #[.bool b,.slice A n c] 24)).alloc (.cells #[.bool b',.slice A' n' c'] 24)) 26 #[.bool false,.slice none 0 0,.slice none 0 0];have aq:=(((Ext.refl w).alloc (.cells #[.bool b,.slice A n c] 24)).alloc (.cells #[.bool b',.slice A' n' c'] 24)).alloc (.cells #[.bool false,.slice none 0 0,.slice none 0 0] 26);have am:w.heap.size+1+1<(((w.alloc (.cells #[.bool b,.slice A n c] 24)).alloc (.cells #[.bool b',.slice A' n' c'] 24)).alloc (.cells #[.bool false,.slice none 0 0,.slice none 0 0] 26)).heap.size:=by simp
 simp only[World.size_alloc]at al hb2;generalize ((w.alloc (.cells #[.bool b,.slice A n c] 24)).alloc (.cells #[.bool b',.slice A' n' c'] 24)).alloc (.cells #[.bool false,.slice none 0 0,.slice none 0 0] 26)=wo at *;refine(HL.out _ aq).mono ?_
 rintro e w1 ⟨v1,u1,rfl,dt,ac,ag⟩;have mM:=hb0.ext ag;have fu:=al.ext ag;have hk2:=hb2.ext ag;have fx:=hid dt;have pN:=hid ac;obtain⟨n1,A1,c1,rfl⟩:=dt.shape;obtain⟨n2,A2,c2,rfl⟩:=ac.shape;obtain⟨h0,h1,_,_,_⟩:=mM.two;obtain⟨h2,h3,_,_,_⟩:=fu.two;have mV:=hid hk2;have ar:=hid (aq.trans ag);have oq:=hid ag.size;clear hb0 al hb2 ag dt ac mM fu hk2 aq;go_wp2_with fail;refine(HI.out _ _ fx.out.arr).mono ?_
 rintro e w2 ⟨v2,rfl,ax,ae⟩;have gF:=hid ax;have gA:=hid (pN.out.ext ae);have fu:=mV.out.ext ae;obtain⟨b3,n3,A3,c3,rfl⟩:=ax.shape;have k0:=fu.three;have aI:=hid (ar.out.trans ae);have lO:=hid fu;clear ax ae fu;go_wp2_with fail;obtain⟨aj,ac,hr2⟩:=Ah lO.out (.bool b3) (.slice A3 n3 c3) (.slice A2 n2 c2);refine bodyPost_ret (v:= .tuple #[.agg #[.bool b3,.slice A3 n3 c3,.slice A2 n2 c2],.int .i64 0]) (by simp[results,Tryz.results63,go_sem,aj,ac,hr2]) rfl ?_
 have dz:Ag wo.heap.size w2 (.agg #[.bool b3,.slice A3 n3 c3,.slice A2 n2 c2]) (GF x y) (GG x y):=Ag.mk (by
  have h1:=gF.out.mono oq.out;rw[HS.out,HS'.out]at h1;exact h1) gA.out
 exact⟨_,rfl,dz.put am (by omega),((aI.out.setCell (by show _<=w.heap.size+1+1;omega) _).setCell (by show _<=w.heap.size+1+1;omega) _).setCell (by show _<=w.heap.size+1+1;omega) _⟩
theorem LZ(w:World)(v u:Value)(x y:Int)(h:Ap w v x)(h':Ap w u y)(hn:(Ac x.natAbs).length<=134217728)(bu:(Ac y.natAbs).length<=134217728)(hy:y≠0):
  Calls Tryz.prog 118 #[v,u] w fun e w'=>∃v',e= .returned v'/\Ag w.heap.size w' v' (GF x y) (GG x y)/\Ext w w':=by
 have HA:=hid h;have HB:=hid h';obtain⟨b,n,A,c,rfl⟩:=h.shape;obtain⟨b',n',A',c',rfl⟩:=h'.shape;have HM:=hid (fun W hx=>Hi W _ _ x y (h.ext hx) (h'.ext hx) hn bu hy);clear h h' hn bu;go_enter Tryz.func118,Tryz.ntmps118;go_wp2_with fail;have hb2:=Blk.new ((w.alloc (.cells #[.bool b,.slice A n c] 24)).alloc (.cells #[.bool b',.slice A' n' c'] 24)) 26 #[.bool false,.slice none 0 0,.slice none 0 0];have aq:=(((Ext.refl w).alloc (.cells #[.bool b,.slice A n c] 24)).alloc (.cells #[.bool b',.slice A' n' c'] 24)).alloc (.cells #[.bool false,.slice none 0 0,.slice none 0 0] 26);simp only[World.size_alloc]at hb2;generalize ((w.alloc (.cells #[.bool b,.slice A n c] 24)).alloc (.cells #[.bool b',.slice A' n' c'] 24)).alloc (.cells #[.bool false,.slice none 0 0,.slice none 0 0] 26)=wo at *;refine(HM.out _ aq).mono ?_
 rintro e w1 ⟨v1,rfl,dt,ag⟩;have fx:=hid dt;obtain⟨b1,n1,A1,c1,n2,A2,c2,rfl⟩:=dt.shape;have hk2:=hb2.ext ag;have HK:=hid hk2;have ar:=hid (aq.trans ag);have oq:=hid ag.size;have ov:=hid hb2.lt;have k0:=hk2.three;clear dt ag hk2 hb2 aq;go_wp2_with fail;obtain⟨aj,ac,hr2⟩:=Ah HK.out (.bool b1) (.slice A1 n1 c1) (.slice A2 n2 c2);obtain⟨ck,hs1,iI,_⟩:=((((HK.out.set_ 0 (.bool b1)).set_ 1 (.slice A1 n1 c1)).set_ 2 (.slice A2 n2 c2)).alloc (.cells #[.bool b1,.slice A1 n1 c1,.slice A2 n2 c2] 26)).three;refine bodyPost_ret (v:= .agg #[.bool b1,.slice A1 n1 c1,.slice A2 n2 c2]) (by simp[results,Tryz.results118,go_sem,ck,hs1,iI]) rfl ?_
 have dz:=(fx.out.put (w:=w) ov.out (by have:=ov.out;omega)).ext ((Ext.refl _).alloc (.cells #[.bool b1,.slice A1 n1 c1,.slice A2 n2 c2] 26));exact⟨_,rfl,dz,(((ar.out.setCell (by show _<=w.heap.size+1+1;omega) _).setCell (by show _<=w.heap.size+1+1;omega) _).setCell (by show _<=w.heap.size+1+1;omega) _).alloc _⟩
theorem Q7(w:World)(n:Nat)(hn:n<=100000):
  Calls Tryz.prog 171 #[.int .i64 (n:Int)] w fun e w'=>∃v',e= .returned v'/\AI w.heap.size w' v' ((10 ^ n:Nat):Int)/\Ext w w':=by
 have cY:=hid (fun W=>FC W 1 (by decide));rw[show ((1:Nat):Int)=1 from rfl]at cY;have pR:Hid (∀k,k<=n->(Ac (10 ^ k)).length<=100001):=hid (fun k hk=>DR (k:=k+1) (Nat.pow_lt_pow_right (by decide) (by omega)) (by omega));go_enter Tryz.func171,Tryz.ntmps171;go_wp2_with fail;refine(cY.out _).mono ?_
 rintro e w1 ⟨v1,rfl,dt,ag⟩;have ai:=hid ((Blk.new w 24 #[.bool false,.slice none 0 0]).ext ag);have ar:=hid (((Ext.refl w).alloc (.cells #[.bool false,.slice none 0 0] 24)).trans ag);have fx:=hid (dt.mono (show w.heap.size+1<=_ by simp));obtain⟨n1,A1,c1,rfl⟩:=dt.arr.2.shape;clear dt ag;go_wp2_with fail;go_loopw [3,6] (fun s3 s6 wr=>∃(k:Nat) (m:Nat) (A:Option Addr) (c:Nat),k<=n/\s6= .int .i64 (k:Int)/\s3= .slice A m c/\Own (w.heap.size+1) wr s3 (Ac (10 ^ k))/\Blk wr w.heap.size 24 #[.bool false,.slice none 0 0]/\Ext w wr) (fun _ s6 _=>n-(intOf s6).toNat)
 case atStart=>exact⟨0,n1,A1,c1,Nat.zero_le _,rfl,rfl,fx.out,ai.out,ar.out⟩
 case round=>
  obtain⟨k,m,A,c,hk,rfl,rfl,ho,hb,hx⟩:=hrel;have HO:=hid ho;have HB:=hid hb;have HX:=hid hx;have bK:=hb.lt;by_cases hlt:k<n
  ·have HS:=hid (EM wr _ _ 10 0 ho.arr (by have:=pR.out k hk;omega) (by decide) (by decide));rw[Ad,Nat.add_zero,<-Nat.pow_succ,show ((10:Nat):Int)=10 from rfl,show ((0:Nat):Int)=0 from rfl]at HS;clear ho hb hx;go_wp2_with fail;refine HS.out.mono ?_
   rintro e w2 ⟨v2,rfl,cU,ae⟩;have d9:=hid (cU.mono bK);have a6:=hid (HB.out.ext ae);have aI:=hid (HX.out.trans ae);obtain⟨n2,A2,c2,rfl⟩:=cU.arr.2.shape;clear cU ae;go_wp2_with fail;go_roundw
   case rel=>exact⟨k+1,n2,A2,c2,by omega,by go_num,rfl,d9.out,a6.out,aI.out⟩
   case measure=>simp[intOf];omega
  ·obtain rfl:k=n:=by omega
   have HI:=hid (BL wr false _ _ ho.arr (by have:=pR.out k hk;omega));rw[Ad]at HI;clear ho hb hx;go_wp2_with fail;refine HI.out.mono ?_
   rintro e w2 ⟨v2,rfl,ax,ae⟩;have gF:=hid (ax.mono bK);have hb2:=HB.out.ext ae;have a6:=hid hb2;have aI:=hid (HX.out.trans ae);obtain⟨b2,n2,A2,c2,rfl⟩:=ax.shape;have k0:=hb2.two;clear ax ae hb2;go_wp2_with fail;obtain⟨aj,ac⟩:=BR a6.out (.bool b2) (.slice A2 n2 c2);refine bodyPost_ret (v:= .agg #[.bool b2,.slice A2 n2 c2]) (by simp[results,Tryz.results171,go_sem,aj,ac]) rfl ?_
   have hst:=AI.stored a6.out gF.out (Nat.lt_succ_self _) aI.out (Nat.le_refl _);exact⟨_,rfl,hst⟩
def UE(w:World)(l:List UInt8)(e:Ending)(w':World):Prop:=
 ∃a b:List UInt8,e= .returned (.tuple #[str a,str b,.bool (CF l)])/\(CF l=true->a=whole l/\b=AY l)/\Ext w w'
theorem OD{l:List UInt8}{k:Nat}(h:AC l=true)(hk:l.length=k+1):(AY l=[]->Af l k=46)/\(AY l≠[]->((AY l).getLast? == some 48)=((Af l k:Int) == 48)):=by
 rcases Cd l with ⟨_,h2⟩|⟨h1,_⟩
 ·have hg:Af l k=Af (whole l++46::AY l) k:=congrArg (fun z=>Af z k) h2;have aF:=congrArg List.length h2;rw[List.length_append,List.length_cons,hk]at aF;constructor
  ·intro hp;rw[hg];rw[hp]at aF ⊢;simp only[List.length_nil]at aF;unfold Af;rw[List.getD_eq_getElem?_getD,List.getElem?_append_right (by omega),show k-(whole l).length=0 by omega];rfl
  ·intro hp;obtain⟨j,hj⟩:∃j,(AY l).length=j+1:=⟨(AY l).length-1,by have:=List.length_pos_iff.2 hp;omega⟩;rw[KA (AY l) j hj,hg];have:Af (whole l++46::AY l) k=Af (AY l) j:=by
    unfold Af;rw[List.getD_eq_getElem?_getD,List.getD_eq_getElem?_getD,List.getElem?_append_right (by omega),show k-(whole l).length=j+1 by omega,List.getElem?_cons_succ]
   rw[this]
 ·rw[h]at h1;cases h1
theorem Ji{l:List UInt8}{k:Nat}(ha:DE l=true)(h:AC l=true)(hp:AY l≠[])(hk:l.length=k+1):48<=Af l k:=by
 rcases Cd l with ⟨_,h2⟩|⟨h1,_⟩
 ·have hg:Af l k=Af (whole l++46::AY l) k:=congrArg (fun z=>Af z k) h2;have aF:=congrArg List.length h2;rw[List.length_append,List.length_cons,hk]at aF;obtain⟨j,hj⟩:∃j,(AY l).length=j+1:=⟨(AY l).length-1,by have:=List.length_pos_iff.2 hp;omega⟩;have h3:Af (whole l++46::AY l) k=Af (AY l) j:=by
   unfold Af;rw[List.getD_eq_getElem?_getD,List.getD_eq_getElem?_getD,List.getElem?_append_right (by omega),show k-(whole l).length=j+1 by omega,List.getElem?_cons_succ]
  rw[hg,h3,Bz _ _ (by omega)];have h4:Bu (AY l)[j]=true:=by
   unfold DE at ha;rw[List.all_append,Bool.and_eq_true]at ha;exact List.all_eq_true.1 ha.2 _ (List.getElem_mem _)
  unfold Bu at h4;simp only[Bool.and_eq_true,decide_eq_true_eq]at h4;exact h4.1
 ·rw[h]at h1;cases h1
theorem ME{l:List UInt8}(h:0<(whole l).length):((whole l)[0]? == some 48)=((Af l 0:Int) == 48):=by
 obtain⟨k,hk⟩:∃k,(whole l).length=k+1:=⟨(whole l).length-1,by omega⟩;rw[Gb (whole l) k hk];have:Af (whole l) 0=Af l 0:=by
  have h1:=F0 l;rw[<-h1];unfold Af;rw[List.getD_eq_getElem?_getD,List.getD_eq_getElem?_getD,List.getElem?_take_of_lt h]
 rw[this]
theorem K6(w:World)(l:List UInt8)(hl:l.length<=1073741824):
  Calls Tryz.prog 169 #[str l] w (UE w l):=by
 go_enter Tryz.func169,Tryz.ntmps169;go_wp2_with fail;go_loopw [5,6] (fun s5 s6 wr=>∃i p:Nat,i<=l.length/\s6= .int .i64 (i:Int)/\s5= .int .i64 (p:Int)/\Hid (DE (l.take i)=true)/\Hid (p=if AC (l.take i) then (whole l).length else l.length)/\w=wr) (fun _ s6 _=>l.length-(intOf s6).toNat)
 case atStart=>exact⟨0,l.length,Nat.zero_le _,rfl,rfl,hid (by rw[List.take_zero];rfl),hid (by rw[List.take_zero];rfl),rfl⟩
 case round=>
  obtain⟨i,p,hi,rfl,rfl,HA,HP,rfl⟩:=hrel;by_cases hlt:i<l.length
  ·have hst:=PD hlt HA.out;have fw:=Bz l i hlt;have fM:=hid hst.1;have lc:=hid hst.2;have HFD:=hid (Qi l i hlt);have HDT:=hid (MF (l:=l) (j:=i));have aD:Hid (DE (l.take (i+1))=false->CF l=false):=hid (fun h=>by rw[Cr,Rk h,Bool.and_false]);have eP:=CJ l i;clear hst;generalize l[i]=c at *;have vu:(c == 46)=((Af l i:Int) == 46):=by
    rw[fw,Bool.eq_iff_iff];simp only[beq_iff_eq];constructor
    ·intro e;rw[e];rfl
    ·intro e;apply UInt8.toNat_inj.1;have:c.toNat=46:=by omega
     rw[this];rfl
   have xl:Bu c=(decide (48<=Af l i) && decide (Af l i<=57)):=by rw[fw];rfl
   have iy:=hid vu;have tG:=hid xl;clear vu xl fw;cases hD:AC (l.take i)
   ·have hp:p=l.length:=by rw[HP.out,hD];rfl
    subst hp;cases h46:((Af l i:Int) == 46)
    ·rcases Nat.lt_or_ge (Af l i) 48 with vI|vI
     ·have HG:Hid (CF l=false):=hid (aD.out (by rw[fM.out,hD,iy.out,h46,tG.out];simp;omega));have ee:decide ((Af l i:Int)<48)=true:=by rw[decide_eq_true_iff];omega
      have sA:(Af l i:Int)<48:=by omega
      clear hD;go_wp2_with fail;go_ret3;exact⟨[],[],by rw[HG.out];rfl,(fun h=>by rw[HG.out]at h;cases h),Ext.refl _⟩
     ·have ee:decide ((Af l i:Int)<48)=false:=by simp;omega
      have sA:¬(Af l i:Int)<48:=by omega
      rcases Nat.lt_or_ge 57 (Af l i) with Vk|Vk
      ·have HG:Hid (CF l=false):=hid (aD.out (by rw[fM.out,hD,iy.out,h46,tG.out];simp;omega));have eN:decide ((57:Int)<(Af l i:Int))=true:=by rw[decide_eq_true_iff];omega
       have sy:(57:Int)<(Af l i:Int):=by omega
       clear hD;go_wp2_with fail;go_ret3;exact⟨[],[],by rw[HG.out];rfl,(fun h=>by rw[HG.out]at h;cases h),Ext.refl _⟩
      ·have eN:decide ((57:Int)<(Af l i:Int))=false:=by simp;omega
       have sy:¬(57:Int)<(Af l i:Int):=by omega
       have i6:Hid (DE (l.take (i+1))=true):=hid (by rw[fM.out,iy.out,h46,tG.out];simp;omega);have ez:Hid (AC (l.take (i+1))=AC (l.take i)):=hid (by rw[lc.out,iy.out,h46,Bool.or_false]);clear hD;go_wp2_with fail;go_roundw
       case rel=>exact⟨i+1,_,by omega,by go_num,rfl,i6,hid (by rw[ez.out];exact HP.out),(by first|rfl|trivial)⟩
       case measure=>simp[intOf];omega
    ·have HN:Hid ((whole l).length=i):=hid (HFD.out hD (by have:=iy.out;rw[h46]at this;simpa using this));have i6:Hid (DE (l.take (i+1))=true):=hid (by rw[fM.out,hD,iy.out,h46];rfl);have ez:Hid (AC (l.take (i+1))=true):=hid (by rw[lc.out,iy.out,h46,Bool.or_true]);have xf:((l.length:Int) == (l.length:Int))=true:=by simp
     clear hD;go_wp2_with fail;go_roundw
     case rel=>exact⟨i+1,i,by omega,by go_num,rfl,i6,hid (by rw[ez.out,HN.out];rfl),(by first|rfl|trivial)⟩
     case measure=>simp[intOf];omega
   ·have eT:p=(whole l).length:=by rw[HP.out,hD];rfl
    have hlt2:=HDT.out hD;have rz:((p:Int) == (l.length:Int))=false:=by rw[beq_eq_false_iff_ne];omega
    cases h46:((Af l i:Int) == 46)
    ·rcases Nat.lt_or_ge (Af l i) 48 with vI|vI
     ·have HG:Hid (CF l=false):=hid (aD.out (by rw[fM.out,hD,iy.out,h46,tG.out];simp;omega));have ee:decide ((Af l i:Int)<48)=true:=by rw[decide_eq_true_iff];omega
      have sA:(Af l i:Int)<48:=by omega
      clear hD;go_wp2_with fail;go_ret3;exact⟨[],[],by rw[HG.out];rfl,(fun h=>by rw[HG.out]at h;cases h),Ext.refl _⟩
     ·have ee:decide ((Af l i:Int)<48)=false:=by simp;omega
      have sA:¬(Af l i:Int)<48:=by omega
      rcases Nat.lt_or_ge 57 (Af l i) with Vk|Vk
      ·have HG:Hid (CF l=false):=hid (aD.out (by rw[fM.out,hD,iy.out,h46,tG.out];simp;omega));have eN:decide ((57:Int)<(Af l i:Int))=true:=by rw[decide_eq_true_iff];omega
       have sy:(57:Int)<(Af l i:Int):=by omega
       clear hD;go_wp2_with fail;go_ret3;exact⟨[],[],by rw[HG.out];rfl,(fun h=>by rw[HG.out]at h;cases h),Ext.refl _⟩
      ·have eN:decide ((57:Int)<(Af l i:Int))=false:=by simp;omega
       have sy:¬(57:Int)<(Af l i:Int):=by omega
       have i6:Hid (DE (l.take (i+1))=true):=hid (by rw[fM.out,iy.out,h46,tG.out];simp;omega);have ez:Hid (AC (l.take (i+1))=AC (l.take i)):=hid (by rw[lc.out,iy.out,h46,Bool.or_false]);clear hD;go_wp2_with fail;go_roundw
       case rel=>exact⟨i+1,_,by omega,by go_num,rfl,i6,hid (by rw[ez.out];exact HP.out),(by first|rfl|trivial)⟩
       case measure=>simp[intOf];omega
    ·have vI:(Af l i:Int)<48:=by
      have:(Af l i:Int)=46:=by simpa using h46
      omega
     have HG:Hid (CF l=false):=hid (aD.out (by rw[fM.out,hD,tG.out];simp;omega));have ee:decide ((Af l i:Int)<48)=true:=by simpa using vI
     clear hD eT hlt2;go_wp2_with fail;go_ret3;exact⟨[],[],by rw[HG.out];rfl,(fun h=>by rw[HG.out]at h;cases h),Ext.refl _⟩
  ·obtain rfl:i=l.length:=by omega
   rw[List.take_of_length_le (Nat.le_refl _)]at HA HP;have eT:p=(whole l).length:=by
    rw[HP.out];cases hD:AC l
    ·rw[Fl hD];rfl
    ·rfl
   subst eT;clear HP;rcases Nat.eq_zero_or_pos (whole l).length with dx|dx
   ·have HG:Hid (CF l=false):=hid (by
     have h1:whole l=[]:=List.eq_nil_of_length_eq_zero dx;have h2:Hs l=true:=by unfold Hs;rw[h1];simp
     rw[Cr,h2];rfl)
    have hz:(((whole l).length:Int) == 0)=true:=by rw[dx];rfl
    clear dx;go_wp2_with fail;go_ret3;exact⟨[],[],by rw[HG.out];rfl,(fun h=>by rw[HG.out]at h;cases h),Ext.refl _⟩
   ·have hz:(((whole l).length:Int) == 0)=false:=by rw[beq_eq_false_iff_ne];omega
    have Zz:=Gk l;have gw:(0:Int)<(l.length:Int):=by omega
    have xA:Hid ((whole l == [])=false):=hid (by rw[beq_eq_false_iff_ne];intro e;rw[e]at dx;simp at dx);have nR:=ME dx;rcases Nat.lt_or_ge 1 (whole l).length with XU|XU
    ·have hd:(1:Int)<((whole l).length:Int):=by omega
     cases hb0:((Af l 0:Int) == 48)
     ·have vY:Hid (((whole l)[0]? == some 48 && decide (1<(whole l).length))=false):=hid (by rw[nR,hb0];rfl);clear nR;cases hD:AC l
      ·have rj:=Fl hD;have HG:Hid (CF l=true):=hid (by rw[Cr,HA.out,EE (by rw[hD];rfl),xA.out,vY.out];rfl);have rz:(((whole l).length:Int) == (l.length:Int))=true:=by rw[beq_iff_eq];omega
       have qj:¬((whole l).length:Int)<(l.length:Int):=by omega
       have HE:Hid (whole l=l/\AY l=[]):=hid (by
        rcases Cd l with ⟨h1,_⟩|⟨_,h2,h3⟩
        ·rw[hD]at h1;cases h1
        ·exact⟨h2.symm,h3⟩)
       clear hD rj;go_wp2_with fail;go_ret3;exact⟨l,[],by rw[HG.out];rfl,(fun _=>⟨HE.out.1.symm,HE.out.2.symm⟩),Ext.refl _⟩
      ·have zd:(whole l).length<l.length:=of_decide_eq_true hD;have rz:(((whole l).length:Int) == (l.length:Int))=false:=by rw[beq_eq_false_iff_ne];omega
       have qj:((whole l).length:Int)<(l.length:Int):=by omega
       obtain⟨k,hk⟩:∃k,l.length=k+1:=⟨l.length-1,by omega⟩;have tW:(l.length:Int)-1=(k:Int):=by omega
       have mM:(k:Int)<(l.length:Int):=by omega
       have ki:=hid (OD hD hk);rcases Nat.eq_zero_or_pos (AY l).length with hp0|hp0
       ·have fB:AY l=[]:=List.eq_nil_of_length_eq_zero hp0;have HG:Hid (CF l=false):=hid (by rw[Cr,Fx (by rw[hD,fB];rfl)];rfl);have fw:=ki.out.1 fB;have al:((Af l k:Int) == 48)=false:=by rw[fw];rfl
        have hb2:((Af l k:Int) == 46)=true:=by rw[fw];rfl
        clear hD hk hp0 fB fw;go_wp2_with fail;go_ret3;exact⟨[],[],by rw[HG.out];rfl,(fun h=>by rw[HG.out]at h;cases h),Ext.refl _⟩
       ·have fB:AY l≠[]:=fun e=>by rw[e]at hp0;simp at hp0
        have jh:(AY l == [])=false:=by rw[beq_eq_false_iff_ne];exact fB
        have fw:=ki.out.2 fB;cases hb:((Af l k:Int) == 48)
        ·have HG:Hid (CF l=true):=hid (by rw[Cr,HA.out,EE (by rw[hD,jh,fw,hb];rfl),xA.out,vY.out];rfl);have hb2:((Af l k:Int) == 46)=false:=by
          have h1:=Ji HA.out hD fB hk;rw[beq_eq_false_iff_ne];omega
         have qF:=hid (F0 l);have Wy:=hid (KL hD);have aZ:IntKind.i64.wrap (((whole l).length:Int)+1)=((whole l).length:Int)+1:=IntWalk.i64_in _ (by omega);have cx:(0:Int)<=((whole l).length:Int)+1:=by omega
         have fA:((whole l).length:Int)+1<=(l.length:Int):=by omega
         have hw4:(((whole l).length:Int)+1).toNat=(whole l).length+1:=by omega
         have eE:((whole l).length:Int)<=(l.length:Int):=by omega
         clear hD hk hp0 fB fw jh;go_wp2_with fail;go_quiet (fail);go_wp2_with fail;go_ret3;exact⟨_,_,by rw[HG.out];rfl,(fun _=>⟨qF.out,Wy.out⟩),(Ext.refl _).drewN _⟩
        ·have HG:Hid (CF l=false):=hid (by rw[Cr,Fx (by rw[hD,jh,fw,hb];rfl)];rfl);clear hD hk hp0 fB fw jh;go_wp2_with fail;go_ret3;exact⟨[],[],by rw[HG.out];rfl,(fun h=>by rw[HG.out]at h;cases h),Ext.refl _⟩
     ·have HG:Hid (CF l=false):=hid (by
       have h2:Hs l=true:=by unfold Hs;rw[nR,hb0];simp[XU]
       rw[Cr,h2];rfl)
      clear nR;go_wp2_with fail;go_ret3;exact⟨[],[],by rw[HG.out];rfl,(fun h=>by rw[HG.out]at h;cases h),Ext.refl _⟩
    ·have hd:¬(1:Int)<((whole l).length:Int):=by omega
     have vY:Hid (((whole l)[0]? == some 48 && decide (1<(whole l).length))=false):=hid (by rw[decide_eq_false (by omega),Bool.and_false]);clear nR;cases hD:AC l
     ·have rj:=Fl hD;have HG:Hid (CF l=true):=hid (by rw[Cr,HA.out,EE (by rw[hD];rfl),xA.out,vY.out];rfl);have rz:(((whole l).length:Int) == (l.length:Int))=true:=by rw[beq_iff_eq];omega
      have qj:¬((whole l).length:Int)<(l.length:Int):=by omega
      have HE:Hid (whole l=l/\AY l=[]):=hid (by
       rcases Cd l with ⟨h1,_⟩|⟨_,h2,h3⟩
       ·rw[hD]at h1;cases h1
       ·exact⟨h2.symm,h3⟩)
      clear hD rj;go_wp2_with fail;go_ret3;exact⟨l,[],by rw[HG.out];rfl,(fun _=>⟨HE.out.1.symm,HE.out.2.symm⟩),Ext.refl _⟩
     ·have zd:(whole l).length<l.length:=of_decide_eq_true hD;have rz:(((whole l).length:Int) == (l.length:Int))=false:=by rw[beq_eq_false_iff_ne];omega
      have qj:((whole l).length:Int)<(l.length:Int):=by omega
      obtain⟨k,hk⟩:∃k,l.length=k+1:=⟨l.length-1,by omega⟩;have tW:(l.length:Int)-1=(k:Int):=by omega
      have mM:(k:Int)<(l.length:Int):=by omega
      have ki:=hid (OD hD hk);rcases Nat.eq_zero_or_pos (AY l).length with hp0|hp0
      ·have fB:AY l=[]:=List.eq_nil_of_length_eq_zero hp0;have HG:Hid (CF l=false):=hid (by rw[Cr,Fx (by rw[hD,fB];rfl)];rfl);have fw:=ki.out.1 fB;have al:((Af l k:Int) == 48)=false:=by rw[fw];rfl
       have hb2:((Af l k:Int) == 46)=true:=by rw[fw];rfl
       clear hD hk hp0 fB fw;go_wp2_with fail;go_ret3;exact⟨[],[],by rw[HG.out];rfl,(fun h=>by rw[HG.out]at h;cases h),Ext.refl _⟩
      ·have fB:AY l≠[]:=fun e=>by rw[e]at hp0;simp at hp0
       have jh:(AY l == [])=false:=by rw[beq_eq_false_iff_ne];exact fB
       have fw:=ki.out.2 fB;cases hb:((Af l k:Int) == 48)
       ·have HG:Hid (CF l=true):=hid (by rw[Cr,HA.out,EE (by rw[hD,jh,fw,hb];rfl),xA.out,vY.out];rfl);have hb2:((Af l k:Int) == 46)=false:=by
         have h1:=Ji HA.out hD fB hk;rw[beq_eq_false_iff_ne];omega
        have qF:=hid (F0 l);have Wy:=hid (KL hD);have aZ:IntKind.i64.wrap (((whole l).length:Int)+1)=((whole l).length:Int)+1:=IntWalk.i64_in _ (by omega);have cx:(0:Int)<=((whole l).length:Int)+1:=by omega
        have fA:((whole l).length:Int)+1<=(l.length:Int):=by omega
        have hw4:(((whole l).length:Int)+1).toNat=(whole l).length+1:=by omega
        have eE:((whole l).length:Int)<=(l.length:Int):=by omega
        clear hD hk hp0 fB fw jh;go_wp2_with fail;go_quiet (fail);go_wp2_with fail;go_ret3;exact⟨_,_,by rw[HG.out];rfl,(fun _=>⟨qF.out,Wy.out⟩),(Ext.refl _).drewN _⟩
       ·have HG:Hid (CF l=false):=hid (by rw[Cr,Fx (by rw[hD,jh,fw,hb];rfl)];rfl);clear hD hk hp0 fB fw jh;go_wp2_with fail;go_ret3;exact⟨[],[],by rw[HG.out];rfl,(fun h=>by rw[HG.out]at h;cases h),Ext.refl _⟩
def B3(w:World)(l:List UInt8):World:=Lib.bytesWorld w 5 ⟨l.toArray⟩
theorem Fu(w:World)(l:List UInt8):Ext w (B3 w l):=by
 refine⟨?_,?_,?_,?_,fun k hk=>Lib.bytesWorld_at_old w _ _ k hk⟩
 ·simp[B3,Lib.bytesWorld,World.freeze,World.alloc,World.drew,-World.alloc_eq,-World.drew_eq]
 ·simp[B3,Lib.bytesWorld,World.freeze,World.alloc,World.drew,-World.alloc_eq,-World.drew_eq]
 ·simp[B3,Lib.bytesWorld,World.freeze,World.alloc,World.drew,-World.alloc_eq,-World.drew_eq]
 ·unfold B3;rw[Lib.bytesWorld_size];omega
theorem EY(w:World)(l:List UInt8)(j:Nat)(h:j<l.length):(B3 w l).cell? ⟨w.heap.size,j,none⟩=some (.int .u8 (Af l j:Int)):=by
 unfold B3 Af;rw[Lib.bytesWorld_cell w _ _ j (by rw[Co];exact h)]
theorem N6(w:World)(l:List UInt8):w.heap.size<(B3 w l).heap.size:=by unfold B3;rw[Lib.bytesWorld_size];omega
theorem Dt(w:World)(l:List UInt8):∃c,(convert 9 221 (str l)).run Tryz.prog w= .ok (.slice (some ⟨w.heap.size,0,none⟩) l.length c) (B3 w l)/\l.length<=c:=by
 have:=Lib.run_convert_string_bytes (P:=Tryz.prog) w 9 221 5 ⟨l.toArray⟩ Tryz.underlying9 Tryz.underlying221 Tryz.underlying5;rw[Co]at this;exact⟨_,this,grownCap_ge w l.length 0 _⟩
theorem Mr(n:Nat)(d:Nat):GF (n:Int) ((d:Nat):Int)=Dy (n:Int) d/\GG (n:Int) ((d:Nat):Int)=C9 (n:Int) d:=by
 unfold GF Dy GG C9;have h1:decide ((n:Int)<0)=false:=by simp
 have h2:decide ((d:Int)<0)=false:=by simp
 rw[h1,h2,Int.natAbs_natCast,Int.natAbs_natCast];exact⟨rfl,rfl⟩
theorem K4(w:World)(l:List UInt8)(h:400<l.length):Calls Tryz.prog 126 #[str l] w (DS w l):=by
 have hc:Bm l=7:=if_pos h;have h':(400:Int)<(l.length:Int):=by omega
 have HC:=hid hc;clear h hc;go_enter Tryz.func126,Tryz.ntmps126;go_wp2_with fail;refine bodyPost_ret (v:= .tuple #[.agg #[.bool false,.slice none 0 0,.slice none 0 0],.int .i64 7]) (by simp[results,Tryz.results126,go_sem]) rfl ?_
 exact⟨_,by rw[HC.out];rfl,by rw[HC.out];exact Ag.zero _ _,(Ext.refl w).alloc _⟩
theorem Fe(w:World)(l:List UInt8):Calls Tryz.prog 126 #[str l] w (DS w l):=by
 rcases Nat.lt_or_ge 400 l.length with hl|hl
 ·exact K4 w l hl
 have HD:=hid (fun W=>K6 W l (by omega));have vK:¬(400:Int)<(l.length:Int):=by omega
 cases hg:CF l
 ·have HC:Hid (Bm l=6):=hid (by unfold Bm;rw[if_neg (by omega),hg];rfl);have HG:=hid hg;clear hg;go_enter Tryz.func126,Tryz.ntmps126;go_wp2_with fail;refine(HD.out _).mono ?_
  rintro e w1 ⟨a,b,rfl,_,ag⟩;rw[HG.out];have ar:=hid (((Ext.refl w).alloc (.cells #[.bool false,.slice none 0 0,.slice none 0 0] 26)).trans ag);have hk:=(Blk.new w 26 #[.bool false,.slice none 0 0,.slice none 0 0]).ext ag;have ai:=hid hk;have k0:=hk.three;clear ag hk;go_wp2_with fail;obtain⟨aj,ac,hr2⟩:=Ah ai.out (.bool false) (.slice none 0 0) (.slice none 0 0);refine bodyPost_ret (v:= .tuple #[.agg #[.bool false,.slice none 0 0,.slice none 0 0],.int .i64 6]) (by simp[results,Tryz.results126,go_sem,aj,ac,hr2]) rfl ?_
  exact⟨_,by rw[HC.out];rfl,by rw[HC.out];exact Ag.zero _ _,((ar.out.setCell (Nat.le_refl _) _).setCell (Nat.le_refl _) _).setCell (Nat.le_refl _) _⟩
 ·have HC:Hid (Bm l=0):=hid (by unfold Bm;rw[if_neg (by omega),hg];rfl);have HG:=hid hg;have hall:DE l=true:=by
   rw[Cr,Bool.and_eq_true]at hg;exact hg.2
  have hpl:(AY l).length<=l.length:=by
   rcases Cd l with ⟨_,h1⟩|⟨_,_,h2⟩
   ·have:=congrArg List.length h1;simp at this;omega
   ·rw[h2];simp
  have mG:=Gk l;have eZ:Hid (Hl l=Dy (Bl (whole l++AY l)) (10 ^ (AY l).length)):=hid rfl;have lw:Hid (Hq l=C9 (Bl (whole l++AY l)) (10 ^ (AY l).length)):=hid rfl;unfold DE at hall;clear hg;have vD:∀W',(binOp .add 9 (str (whole l)) (str (AY l))).run Tryz.prog W'= .ok (str (whole l++AY l)) W':=Du _ _ (by omega);have hL:(whole l++AY l).length<=800:=by rw[List.length_append];omega
  go_enter Tryz.func126,Tryz.ntmps126;go_wp2_with fail;refine(HD.out _).mono ?_
  rintro e w1 ⟨a,b,rfl,zT,ag⟩;obtain⟨rfl,rfl⟩:=zT HG.out;rw[HG.out];generalize whole l=W at *;generalize AY l=P at *;have ar:=hid (((Ext.refl w).alloc (.cells #[.bool false,.slice none 0 0,.slice none 0 0] 26)).trans ag);have ai:=hid ((Blk.new w 26 #[.bool false,.slice none 0 0,.slice none 0 0]).ext ag);obtain⟨cb,hcv,nV⟩:=Dt w1 (W++P);have HBY:=hid (fun j h=>EY w1 (W++P) j h);have dc:=hid (Fu w1 (W++P));have dM:=hid (N6 w1 (W++P));clear ag zT HD HG;generalize W++P=L at *;generalize B3 w1 L=wb at *;have fQ:=hid hall;clear hall;go_wp2_with fail;clear hcv vD;go_loopw [7,28] (fun s7 s28 wr=>∃(k m:Nat) (A:Option Addr) (c:Nat),k<=L.length/\s28= .int .i64 (k:Int)/\s7= .slice A m c/\Own (w.heap.size+1) wr s7 (Ac (Bl (L.take k)))/\Ext wb wr) (fun _ s28 _=>L.length-(intOf s28).toNat)
  case atStart=>exact⟨0,0,none,0,Nat.zero_le _,rfl,rfl,Own.none_ _ _,Ext.refl _⟩
  case round=>
   obtain⟨k,m,A,c,hk,rfl,rfl,ho,hx⟩:=hrel;have HO:=hid ho;have HX:=hid hx;have bK:w.heap.size+1<=wr.heap.size:=by
    have h1:=ai.out.lt;have h2:=dM.out;have h3:=hx.size;omega
   have tU:(Ac (Bl (L.take k))).length<=800:=by
    refine DR (GC _ ?_) (by rw[List.length_take];omega);rw[List.all_eq_true];intro x cK;exact List.all_eq_true.1 fQ.out x (List.mem_of_mem_take cK)
   by_cases hlt:k<L.length
   ·have fw:=(hx.cell dM.out).trans (HBY.out k hlt);have ij:=Bz L k hlt;have mN:Bu L[k]=true:=List.all_eq_true.1 fQ.out _ (List.getElem_mem hlt);have eK:=Jm L k hlt;rw[<-ij]at eK;unfold Bu at mN;rw[<-ij]at mN;simp only[Bool.and_eq_true,decide_eq_true_eq]at mN;obtain⟨d1,d2⟩:=mN;generalize Af L k=b at *;have E1:=hid (show ((b:Int)-48)=((b-48:Nat):Int) by omega);have HS:=hid (EM wr _ _ 10 (b-48) ho.arr (by omega) (by decide) (by omega));rw[Ad]at HS;have HN:=hid (show Bl (L.take (k+1))=Bl (L.take k)*10+(b-48) by rw[eK];omega);clear ho hx ij eK tU nV;go_wp2_with fail;rw[E1.out];refine HS.out.mono ?_
    rintro e w2 ⟨v2,rfl,cU,ae⟩;rw[<-HN.out]at cU;have d9:=hid (cU.mono bK);have aI:=hid (HX.out.trans ae);obtain⟨n2,A2,c2,rfl⟩:=cU.shape;clear cU ae;go_wp2_with fail;go_roundw
    case rel=>exact⟨k+1,n2,A2,c2,by omega,by go_num,rfl,d9.out,aI.out⟩
    case measure=>simp[intOf];omega
   ·obtain rfl:k=L.length:=by omega
    rw[List.take_of_length_le (Nat.le_refl _)]at HO ho tU;have qN:=hid (BL wr false _ _ ho.arr (by omega));rw[Ad]at qN;have hsg:sgn false (Bl L)=((Bl L:Nat):Int):=rfl;rw[hsg]at qN;have VO:=hid (fun W'=>Q7 W' P.length (by omega));have ZI:(Ac (10 ^ P.length)).length<=801:=DR (k:=P.length+1) (Nat.pow_lt_pow_right (by decide) (by omega)) (by omega);have cY:=hid (fun W' a b h1 h2=>LZ W' a b ((Bl L:Nat):Int) ((10 ^ P.length:Nat):Int) h1 h2 (by rw[Int.natAbs_natCast];omega) (by rw[Int.natAbs_natCast];omega) (by
     have:0<10 ^ P.length:=Nat.pow_pos (by decide);omega))
    rw[(Mr (Bl L) (10 ^ P.length)).1,(Mr (Bl L) (10 ^ P.length)).2]at cY;have ju:=hid ((ar.out.trans dc.out).trans hx);have YH:=hid (((ai.out.ext dc.out)).ext hx);clear ho hx tU ZI hsg nV;go_wp2_with fail;refine qN.out.mono ?_
    rintro e w5 ⟨v5,rfl,dV,hx5⟩;have wI:=hid dV;obtain⟨b5,n5,A5,c5,rfl⟩:=dV.shape;have dr:=hid (ju.out.trans hx5);have gI:=hid (YH.out.ext hx5);clear dV hx5;go_wp2_with fail;refine(VO.out _).mono ?_
    rintro e w6 ⟨v6,rfl,ka,cZ⟩;have wH:=hid ka;obtain⟨b6,n6,A6,c6,rfl⟩:=ka.shape;have Wq:=hid (wI.out.ext cZ);have dB:=hid (dr.out.trans cZ);have lU:=hid (gI.out.ext cZ);clear ka cZ;go_wp2_with fail;refine(cY.out _ _ _ Wq.out.arr wH.out.arr).mono ?_
    rintro e w8 ⟨v8,rfl,cJ,bD⟩;obtain⟨b8,n8,A8,c8,pZ,qP,qB,rfl⟩:=cJ.shape;have wi:=hid cJ;have dq:=hid (dB.out.trans bD);have hk:=lU.out.ext bD;have lT:=hid hk;have om:=hid dB.out.size;have oG:=hid lU.out.lt;clear cJ bD;have k0:=hk.three;clear hk;go_wp2_with fail;obtain⟨aj,ac,hr2⟩:=Ah lT.out (.bool b8) (.slice A8 n8 c8) (.slice qP pZ qB);refine bodyPost_ret (v:= .tuple #[.agg #[.bool b8,.slice A8 n8 c8,.slice qP pZ qB],.int .i64 0]) (by simp[results,Tryz.results126,go_sem,aj,ac,hr2]) rfl ?_
    have dz:=wi.out.put (w:=w) oG.out om.out;exact⟨_,by rw[HC.out];rfl,by rw[HC.out,if_pos rfl,if_pos rfl,eZ.out,lw.out];exact dz,((dq.out.setCell (Nat.le_refl _) _).setCell (Nat.le_refl _) _).setCell (Nat.le_refl _) _⟩
theorem PB(w:World)(l:List UInt8)(hl:l.length<=1073741824):Calls Tryz.prog 99 #[str l] w fun e w'=>e= .returned (.bool (Ej l))/\Ext w w':=by
 have HW:=hid (fun W=>PI W l hl);have HR:=hid (fun W=>J0 W l);have h:Ej l=(C0 l && !Bk l):=by rw[Ct];rfl
 have H:=hid h;clear h;cases hw:C0 l
 ·rw[hw]at HW H;clear hw;go_enter Tryz.func99,Tryz.ntmps99;go_wp2_with fail;refine(HW.out _).mono ?_
  rintro e w1 ⟨rfl,rfl⟩;go_wp2_with fail;go_ret;exact⟨by rw[H.out];rfl,Ext.refl _⟩
 ·rw[hw]at HW H;clear hw;generalize Bk l=r at *;go_enter Tryz.func99,Tryz.ntmps99;go_wp2_with fail;refine(HW.out _).mono ?_
  rintro e w1 ⟨rfl,rfl⟩;go_wp2_with fail;refine(HR.out _).mono ?_
  rintro e w2 ⟨rfl,hx⟩;have HX:=hid hx;clear hx;go_wp2_with fail;go_ret;exact⟨by rw[H.out];rfl,HX.out⟩
theorem Iu(t:List UInt8):(⟨t.toArray⟩:ByteArray).toList.isEmpty=(t == []):=by
 rw[<-decide_eq_emptyBytes,Bool.eq_iff_iff];simp only[decide_eq_true_eq,beq_iff_eq];constructor
 ·intro h;have:=congrArg (fun b:ByteArray=>b.data.toList) h
  simpa using this
 ·intro h;subst h;rfl
def ndV(x:Nd):Value:= .agg #[.int .i64 x.kind,.int .i64 x.a,.int .i64 x.b,.int .i64 x.n,str x.text]
theorem Kt(n:Int):decide (-64<=n/\n<=64)=(decide (-64<=n) && decide (n<=64)):=by simp
theorem Ks(w:World)(x:Nd)(hl:x.text.length<=1073741824):Calls Tryz.prog 173 #[ndV x] w fun e w'=>e= .returned (.bool (Az x))/\Ext w w':=by
 obtain⟨k,a,b,n,t⟩:=x;simp only[ndV]at hl ⊢;have HP:=hid (fun W=>Fe W t);have HN:=hid (fun W=>PB W t hl);obtain⟨s,hs⟩:∃s:ByteArray,s=⟨t.toArray⟩:=⟨_,rfl⟩;have hst:str t= .string s:=by rw[hs];rfl
 have hne:s.toList.isEmpty=(t == []):=by rw[hs];exact Iu t
 rw[hst]at HP HN ⊢;clear hs hst;have hb0:=Blk.new w 95 #[.int .i64 k,.int .i64 a,.int .i64 b,.int .i64 n,.string s];have cq:=hid ((Ext.refl w).alloc (.cells #[.int .i64 k,.int .i64 a,.int .i64 b,.int .i64 n,.string s] 95));have ak:=hid hb0;have q0:=hb0.five;clear hb0;have hM:∀h:Bool,(Az ⟨k,a,b,n,t⟩=(Ch ⟨k,a,b,n,t⟩ && B5 ⟨k,a,b,n,t⟩)):=fun _=>rfl
 have key:(k=1)\/(k=2)\/(k≠1/\k≠2):=by omega
 rcases key with rfl|rfl|⟨fu,hk2⟩
 ·by_cases hc0:Bm t=0
  ·have H:Hid (Az ⟨1,a,b,n,t⟩=(n == 0)):=hid (by unfold Az Ch B5;simp[hc0]);have HC:=hid hc0;clear hc0 hM hne;generalize Az ⟨1,a,b,n,t⟩=r at *;go_enter Tryz.func173,Tryz.ntmps173;go_wp2_with fail;refine(HP.out _).mono ?_
   rintro e w5 ⟨v5,rfl,cT,hx5⟩;obtain⟨b5,n5,A5,c5,n6,A6,c6,rfl⟩:=cT.shape;have cZ:=hx5.alloc (.cells #[.bool b5,.slice A5 n5 c5,.slice A6 n6 c6] 26);have dB:=hid (cq.out.trans cZ);have q0:=(ak.out.ext cZ).five;clear cT hx5 cZ;rw[HC.out];go_wp2_with fail;go_ret;exact⟨by rw[H.out];rfl,dB.out⟩
  ·have H:Hid (Az ⟨1,a,b,n,t⟩=false):=hid (by unfold Az Ch B5;simp[hc0]);have nV:((Bm t:Int) != 0)=true:=by
    rw[bne_iff_ne];omega
   clear hc0 hM hne;generalize Az ⟨1,a,b,n,t⟩=r at *;generalize hce:(Bm t:Int)=ce at *;clear q0;go_enter Tryz.func173,Tryz.ntmps173;have q0:=ak.out.five;go_wp2_with fail;refine(HP.out _).mono ?_
   rintro e w5 ⟨v5,rfl,cT,hx5⟩;obtain⟨b5,n5,A5,c5,n6,A6,c6,rfl⟩:=cT.shape;have cZ:=hx5.alloc (.cells #[.bool b5,.slice A5 n5 c5,.slice A6 n6 c6] 26);have dB:=hid (cq.out.trans cZ);clear cT hx5 cZ;rw[hce];go_wp2_with fail;go_ret;exact⟨by rw[H.out];rfl,dB.out⟩
 ·have H:Hid (Az ⟨2,a,b,n,t⟩=(Ej t && (n == 0))):=hid (by unfold Az Ch B5;simp);generalize Az ⟨2,a,b,n,t⟩=r at *;clear hM hne;cases hnb:Ej t
  ·rw[hnb]at HN H;clear hnb;go_enter Tryz.func173,Tryz.ntmps173;go_wp2_with fail;refine(HN.out _).mono ?_
   rintro e w5 ⟨rfl,hx5⟩;have dB:=hid (cq.out.trans hx5);clear hx5;go_wp2_with fail;go_ret;exact⟨by rw[H.out];rfl,dB.out⟩
  ·rw[hnb]at HN H;clear hnb;go_enter Tryz.func173,Tryz.ntmps173;go_wp2_with fail;refine(HN.out _).mono ?_
   rintro e w5 ⟨rfl,hx5⟩;have dB:=hid (cq.out.trans hx5);have q0:=(ak.out.ext hx5).five;clear hx5;go_wp2_with fail;go_ret;exact⟨by rw[H.out];rfl,dB.out⟩
 ·have e1:(k == 1)=false:=by rw[beq_eq_false_iff_ne];omega
  have e2:(k == 2)=false:=by rw[beq_eq_false_iff_ne];omega
  have H1:Hid (Az ⟨k,a,b,n,t⟩=(s.toList.isEmpty && B5 ⟨k,a,b,n,t⟩)):=hid (by rw[hne];unfold Az Ch;rw[if_neg fu,if_neg hk2]);have H2:Hid (B5 ⟨k,a,b,n,t⟩=if k=10 then decide (-64<=n/\n<=64) else n == 0):=hid rfl;generalize Az ⟨k,a,b,n,t⟩=r at *;generalize B5 ⟨k,a,b,n,t⟩=m at *;clear hM hne fu hk2 HP HN hl;cases hsb:s.toList.isEmpty
  ·rw[hsb]at H1;go_enter Tryz.func173,Tryz.ntmps173;go_wp2_with fail;go_ret;exact⟨by rw[H1.out];rfl,cq.out⟩
  ·rw[hsb]at H1;by_cases h10:k=10
   ·subst h10;have H3:Hid (m=(decide (-64<=n) && decide (n<=64))):=hid (by rw[H2.out,if_pos rfl,Kt]);by_cases hn: -64<=n
    ·have hd:decide (-64<=n)=true:=decide_eq_true hn;rw[hd]at H3;go_enter Tryz.func173,Tryz.ntmps173;go_wp2_with fail;go_ret;exact⟨by rw[H1.out,H3.out];rfl,cq.out⟩
    ·have hd:decide (-64<=n)=false:=decide_eq_false hn;rw[hd]at H3;go_enter Tryz.func173,Tryz.ntmps173;go_wp2_with fail;go_ret;exact⟨by rw[H1.out,H3.out];rfl,cq.out⟩
   ·have sB:(k == 10)=false:=by rw[beq_eq_false_iff_ne];exact h10
    have H3:Hid (m=(n == 0)):=hid (by rw[H2.out,if_neg h10]);clear h10;go_enter Tryz.func173,Tryz.ntmps173;go_wp2_with fail;go_ret;exact⟨by rw[H1.out,H3.out];rfl,cq.out⟩
end Big
end Go.Proofs.YtkoaogkknnelaaaGreatDoor
