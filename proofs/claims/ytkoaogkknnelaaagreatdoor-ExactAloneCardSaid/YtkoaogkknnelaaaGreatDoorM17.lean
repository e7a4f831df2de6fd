import Derived.Test.YtkoaogkknnelaaaGreatDoorM16
import Derived.Lib.ConvBytes
import Derived.Laws.Closers25
set_option linter.unusedVariables false
set_option linter.unusedSimpArgs false
set_option maxHeartbeats 1000000
set_option maxRecDepth 100000
namespace Go.Proofs.YtkoaogkknnelaaaGreatDoor
namespace Big
open Lib (hid)
open Go.RowKit
theorem FJ{g:Nat}(h:0<g):0<(Ac g).length:=List.length_pos_iff.2 (fun e=>by rw[BB]at e;omega)
theorem QZ(w:World)(v u:Value)(X Y:Nat)(h:Arr w v (Ac X))(h':Arr w u (Ac Y))(hn:(Ac X).length<=134217728)(bh:(Ac Y).length<=134217728):
  Calls Tryz.prog 167 #[v,u] w fun e w'=>∃v',e= .returned v'/\Arr w' v' (Ac (Nat.gcd X Y))/\Ext w w':=by
 have HA:=hid h;have HB:=hid h';obtain⟨n1,A1,c1,rfl⟩:=h.shape;obtain⟨n2,A2,c2,rfl⟩:=h'.shape;clear h h';go_enter Tryz.func167,Tryz.ntmps167;go_wp2_with fail
 go_loopg [0,1] Y (fun gh s0 s1 wr=>∃(g x:Nat) (na:Nat) (Aa:Option Addr) (ca nb:Nat) (Ab:Option Addr) (cb:Nat),gh=g/\s0= .slice Aa na ca/\s1= .slice Ab nb cb/\Arr wr s0 (Ac x)/\Arr wr s1 (Ac g)/\Nat.gcd x g=Nat.gcd X Y/\(Ac x).length<=134217728/\(Ac g).length<=134217728/\Ext w wr)
 case atStart=>exact⟨Y,X,n1,A1,c1,n2,A2,c2,rfl,rfl,rfl,HA.out,HB.out,rfl,hn,bh,Ext.refl _⟩
 case round=>
  obtain⟨g,x,na,Aa,ca,nb,Ab,cb,hgg,rfl,rfl,mg,mf,hg,hlx,qv,ad⟩:=hrel;have iw:=hid hgg;have HG:=hid hg;have kI:=hid ad;have zr:=hid mf;have hnb:=mf.len;clear hgg hg ad HA HB;rcases Nat.eq_zero_or_pos g with h0|h0
  ·subst h0;rw[Bi,List.length_nil]at hnb;subst hnb;have HV:Hid (Arr wr (.slice Aa na ca) (Ac (Nat.gcd X Y))):=hid (by
    have h1:=HG.out;rw[Nat.gcd_zero_right]at h1;rw[<-h1];exact mg)
   clear mg mf;go_wp2_with fail;go_ret;exact⟨_,rfl,HV.out,kI.out⟩
  ·have hl1:0<nb:=by rw[hnb];exact FJ h0
   have HD:=hid (Hm wr _ _ _ _ mg mf hlx qv (by rw[Ad];exact h0));rw[Ad,Ad]at HD;have fB:=Nat.mod_lt x h0;have xA:=Nat.le_trans (Ay (Nat.le_of_lt fB)) qv;have jD:=hid (show Nat.gcd g (x % g)=Nat.gcd X Y by rw[<-Ml,HG.out]);have hb0:(0:Int)<(nb:Int):=by omega
   clear mg mf hnb;go_wp2_with fail;refine HD.out.mono ?_
   rintro e w3 ⟨v3,u3,rfl,ma,bf,ab⟩;have aZ:=hid (zr.out.ext ab);have ej:=hid bf;have ay:=hid (kI.out.trans ab);obtain⟨n3,A3,c3,rfl⟩:=ma.arr.2.shape;obtain⟨n4,A4,c4,rfl⟩:=bf.2.shape;clear ma bf ab;go_wp2_with fail
   go_roundg (x % g)
   case rel=>exact⟨x % g,g,nb,Ab,cb,n4,A4,c4,rfl,rfl,rfl,aZ.out,ej.out,jD.out,qv,xA,ay.out⟩
   case measure=>rw[iw.out];exact fB
theorem LF(w:World)(v u:Value)(X Y:Nat)(h:Arr w v (Ac X))(h':Arr w u (Ac Y))(hn:(Ac X).length<=134217728)(bh:(Ac Y).length<=134217728)(hy:0<Y):
  Calls Tryz.prog 168 #[v,u] w fun e w'=>∃v',e= .returned v'/\Own w.heap.size w' v' (Ac (X / Y))/\Ext w w':=by
 have HD:=hid (Hm w v u _ _ h h' hn bh (by rw[Ad];exact hy));rw[Ad,Ad]at HD;clear h h';go_enter Tryz.func168,Tryz.ntmps168;go_wp2_with fail;refine HD.out.mono ?_
 rintro e w3 ⟨v3,u3,rfl,ma,bf,ab⟩;have Zj:=hid ma;have ay:=hid ab;obtain⟨n3,A3,c3,rfl⟩:=ma.arr.2.shape;obtain⟨n4,A4,c4,rfl⟩:=bf.2.shape;clear ma bf ab;go_wp2_with fail;go_ret;exact⟨_,rfl,Zj.out,ay.out⟩
def Sj(X Y:Nat)(w:World)(e:Ending)(w':World):Prop:=
 ∃v' u',e= .returned (.tuple #[v',u',.bool true])/\Own w.heap.size w' v' (Ac (X / Nat.gcd X Y))/\Own w.heap.size w' u' (Ac (Y / Nat.gcd X Y))/\Ext w w'
theorem LE(w:World)(v u:Value)(X Y:Nat)(h:Arr w v (Ac X))(h':Arr w u (Ac Y))(hn:(Ac X).length<=134217728)(bh:(Ac Y).length<=134217728)(hy:0<Y):
  Calls Tryz.prog 121 #[v,u] w (Sj X Y w):=by
 have HG:=hid (QZ w v u X Y h h' hn bh);have mr:0<Nat.gcd X Y:=Nat.gcd_pos_of_pos_right _ hy;have em:(Ac (Nat.gcd X Y)).length<=134217728:=Nat.le_trans (Ay (Nat.gcd_le_right _ hy)) bh;have iV:=hid (fun W z hx a=>LF W v z X (Nat.gcd X Y) (h.ext hx) a hn em mr);have lP:=hid (fun W z hx a=>LF W u z Y (Nat.gcd X Y) (h'.ext hx) a bh em mr);obtain⟨nv,Av,cv,rfl⟩:=h.shape;obtain⟨nu,Au,cu,rfl⟩:=h'.shape;have hl:=h'.len;have k7:=FJ hy;rw[<-hl]at k7;have i4:((nu:Int) == 0)=false:=by rw[beq_eq_false_iff_ne];omega
 clear h h' hn bh em hl mr k7;go_enter Tryz.func121,Tryz.ntmps121;go_wp2_with fail;refine HG.out.mono ?_
 rintro e w1 ⟨v1,rfl,de,aj⟩;have ar:=hid aj;have eM:=hid de;obtain⟨n1,A1,c1,rfl⟩:=de.2.shape;clear de aj;go_wp2_with fail;refine(iV.out _ _ ar.out eM.out).mono ?_
 rintro e w2 ⟨v2,rfl,cM,ah⟩;have aP:=hid (ar.out.trans ah);have ee:=hid (cM.mono ar.out.size);have lq:=hid (eM.out.ext ah);obtain⟨n2,A2,c2,rfl⟩:=cM.shape;clear cM ah;go_wp2_with fail;refine(lP.out _ _ aP.out lq.out).mono ?_
 rintro e w3 ⟨v3,rfl,gZ,ab⟩;have ay:=hid (aP.out.trans ab);have rx:=hid (gZ.mono aP.out.size);have ry:=hid (ee.out.ext ab);obtain⟨n3,A3,c3,rfl⟩:=gZ.shape;clear gZ ab;go_wp2_with fail;go_ret3;exact⟨_,_,rfl,ry.out,rx.out,ay.out⟩
def I3(x y:Int):Int:=sgn (decide (x<0) != decide (y<0)) (x.natAbs / Nat.gcd x.natAbs y.natAbs)
def I4(x y:Int):Nat:=y.natAbs / Nat.gcd x.natAbs y.natAbs
theorem Pi(w:World)(v u:Value)(x y:Int)(h:Ar w v x)(h':Ar w u y)(hn:(Ac x.natAbs).length<=134217728)(bh:(Ac y.natAbs).length<=134217728)(hy:y≠0):
  Calls Tryz.prog 63 #[v,u] w fun e w'=>∃v',e= .returned (.tuple #[v',.int .i64 0])/\Aj w.heap.size w' v' (I3 x y) (I4 x y)/\Ext w w':=by
 obtain⟨b,n,A,c,rfl⟩:=h.shape;obtain⟨b',n',A',c',rfl⟩:=h'.shape;have HL:=hid (fun W hx=>LE W (.slice A n c) (.slice A' n' c') x.natAbs y.natAbs (h.mag.ext hx) (h'.mag.ext hx) hn bh (by omega));have HI:=hid (fun W m a=>Cq W (b != b') m (Ac (x.natAbs / Nat.gcd x.natAbs y.natAbs)) a (Nat.le_trans (Ay (Nat.div_le_self _ _)) (by omega)));rw[Ad]at HI;have HS:=hid h.sign;have Zg:=hid h'.sign;clear h h' hn bh;go_enter Tryz.func63,Tryz.ntmps63;go_wp2_with fail;have hb0:=((Blk.new w 24 #[.bool b,.slice A n c]).alloc (.cells #[.bool b',.slice A' n' c'] 24)).alloc (.cells #[.bool false,.slice none 0 0,.slice none 0 0] 26);have aq:=(Blk.new (w.alloc (.cells #[.bool b,.slice A n c] 24)) 24 #[.bool b',.slice A' n' c']).alloc (.cells #[.bool false,.slice none 0 0,.slice none 0 0] 26);have hb2:=Blk.new ((w.alloc (.cells #[.bool b,.slice A n c] 24)).alloc (.cells #[.bool b',.slice A' n' c'] 24)) 26 #[.bool false,.slice none 0 0,.slice none 0 0];have aC:=(((Ext.refl w).alloc (.cells #[.bool b,.slice A n c] 24)).alloc (.cells #[.bool b',.slice A' n' c'] 24)).alloc (.cells #[.bool false,.slice none 0 0,.slice none 0 0] 26);have az:w.heap.size+1+1<(((w.alloc (.cells #[.bool b,.slice A n c] 24)).alloc (.cells #[.bool b',.slice A' n' c'] 24)).alloc (.cells #[.bool false,.slice none 0 0,.slice none 0 0] 26)).heap.size:=by simp
 simp only[World.size_alloc]at aq hb2;generalize ((w.alloc (.cells #[.bool b,.slice A n c] 24)).alloc (.cells #[.bool b',.slice A' n' c'] 24)).alloc (.cells #[.bool false,.slice none 0 0,.slice none 0 0] 26)=wo at *;refine(HL.out _ aC).mono ?_
 rintro e w1 ⟨v1,u1,rfl,de,ae,aj⟩;have mj:=hb0.ext aj;have eQ:=aq.ext aj;have hk2:=hb2.ext aj;have eM:=hid de;have ro:=hid ae;obtain⟨n1,A1,c1,rfl⟩:=de.shape;obtain⟨n2,A2,c2,rfl⟩:=ae.shape;obtain⟨h0,h1,_,_,_⟩:=mj.two;obtain⟨h2,h3,_,_,_⟩:=eQ.two;have lO:=hid hk2;have ar:=hid (aC.trans aj);have mQ:=hid aj.size;clear hb0 aq hb2 aj de ae mj eQ hk2 aC;go_wp2_with fail;refine(HI.out _ _ eM.out.arr).mono ?_
 rintro e w2 ⟨v2,rfl,ba,ah⟩;have fL:=hid ba;have fH:=hid (ro.out.ext ah);have eQ:=lO.out.ext ah;obtain⟨b3,n3,A3,c3,rfl⟩:=ba.shape;have k0:=eQ.three;have aP:=hid (ar.out.trans ah);have ey:=hid eQ;clear ba ah eQ;go_wp2_with fail;obtain⟨ak,ae,hr2⟩:=Ak ey.out (.bool b3) (.slice A3 n3 c3) (.slice A2 n2 c2);refine bodyPost_ret (v:= .tuple #[.agg #[.bool b3,.slice A3 n3 c3,.slice A2 n2 c2],.int .i64 0]) (by simp[results,Tryz.results63,go_sem,ak,ae,hr2]) rfl ?_
 have dj:Aj wo.heap.size w2 (.agg #[.bool b3,.slice A3 n3 c3,.slice A2 n2 c2]) (I3 x y) (I4 x y):=Aj.mk (by
  have h1:=fL.out.mono mQ.out;rw[HS.out,Zg.out]at h1;exact h1) fH.out
 exact⟨_,rfl,dj.put az (by omega),((aP.out.setCell (by show _<=w.heap.size+1+1;omega) _).setCell (by show _<=w.heap.size+1+1;omega) _).setCell (by show _<=w.heap.size+1+1;omega) _⟩
theorem LB(w:World)(v u:Value)(x y:Int)(h:Ar w v x)(h':Ar w u y)(hn:(Ac x.natAbs).length<=134217728)(bh:(Ac y.natAbs).length<=134217728)(hy:y≠0):
  Calls Tryz.prog 118 #[v,u] w fun e w'=>∃v',e= .returned v'/\Aj w.heap.size w' v' (I3 x y) (I4 x y)/\Ext w w':=by
 have HA:=hid h;have HB:=hid h';obtain⟨b,n,A,c,rfl⟩:=h.shape;obtain⟨b',n',A',c',rfl⟩:=h'.shape;have HM:=hid (fun W hx=>Pi W _ _ x y (h.ext hx) (h'.ext hx) hn bh hy);clear h h' hn bh;go_enter Tryz.func118,Tryz.ntmps118;go_wp2_with fail;have hb2:=Blk.new ((w.alloc (.cells #[.bool b,.slice A n c] 24)).alloc (.cells #[.bool b',.slice A' n' c'] 24)) 26 #[.bool false,.slice none 0 0,.slice none 0 0];have aC:=(((Ext.refl w).alloc (.cells #[.bool b,.slice A n c] 24)).alloc (.cells #[.bool b',.slice A' n' c'] 24)).alloc (.cells #[.bool false,.slice none 0 0,.slice none 0 0] 26);simp only[World.size_alloc]at hb2;generalize ((w.alloc (.cells #[.bool b,.slice A n c] 24)).alloc (.cells #[.bool b',.slice A' n' c'] 24)).alloc (.cells #[.bool false,.slice none 0 0,.slice none 0 0] 26)=wo at *;refine(HM.out _ aC).mono ?_
 rintro e w1 ⟨v1,rfl,de,aj⟩;have eM:=hid de;obtain⟨b1,n1,A1,c1,n2,A2,c2,rfl⟩:=de.shape;have hk2:=hb2.ext aj;have HK:=hid hk2;have ar:=hid (aC.trans aj);have mQ:=hid aj.size;have rj:=hid hb2.lt;have k0:=hk2.three;clear de aj hk2 hb2 aC;go_wp2_with fail;obtain⟨ak,ae,hr2⟩:=Ak HK.out (.bool b1) (.slice A1 n1 c1) (.slice A2 n2 c2);obtain⟨cC,cg,iz,_⟩:=((((HK.out.set_ 0 (.bool b1)).set_ 1 (.slice A1 n1 c1)).set_ 2 (.slice A2 n2 c2)).alloc (.cells #[.bool b1,.slice A1 n1 c1,.slice A2 n2 c2] 26)).three;refine bodyPost_ret (v:= .agg #[.bool b1,.slice A1 n1 c1,.slice A2 n2 c2]) (by simp[results,Tryz.results118,go_sem,cC,cg,iz]) rfl ?_
 have dj:=(eM.out.put (w:=w) rj.out (by have:=rj.out;omega)).ext ((Ext.refl _).alloc (.cells #[.bool b1,.slice A1 n1 c1,.slice A2 n2 c2] 26));exact⟨_,rfl,dj,(((ar.out.setCell (by show _<=w.heap.size+1+1;omega) _).setCell (by show _<=w.heap.size+1+1;omega) _).setCell (by show _<=w.heap.size+1+1;omega) _).alloc _⟩
theorem QN(w:World)(n:Nat)(hn:n<=100000):
  Calls Tryz.prog 171 #[.int .i64 (n:Int)] w fun e w'=>∃v',e= .returned v'/\AL w.heap.size w' v' ((10 ^ n:Nat):Int)/\Ext w w':=by
 have dM:=hid (fun W=>KA W 1 (by decide));rw[show ((1:Nat):Int)=1 from rfl]at dM;have oM:Hid (∀k,k<=n->(Ac (10 ^ k)).length<=100001):=hid (fun k hk=>DF (k:=k+1) (Nat.pow_lt_pow_right (by decide) (by omega)) (by omega));go_enter Tryz.func171,Tryz.ntmps171;go_wp2_with fail;refine(dM.out _).mono ?_
 rintro e w1 ⟨v1,rfl,de,aj⟩;have ag:=hid ((Blk.new w 24 #[.bool false,.slice none 0 0]).ext aj);have ar:=hid (((Ext.refl w).alloc (.cells #[.bool false,.slice none 0 0] 24)).trans aj);have eM:=hid (de.mono (show w.heap.size+1<=_ by simp));obtain⟨n1,A1,c1,rfl⟩:=de.arr.2.shape;clear de aj;go_wp2_with fail;go_loopw [3,6] (fun s3 s6 wr=>∃(k:Nat) (m:Nat) (A:Option Addr) (c:Nat),k<=n/\s6= .int .i64 (k:Int)/\s3= .slice A m c/\Own (w.heap.size+1) wr s3 (Ac (10 ^ k))/\Blk wr w.heap.size 24 #[.bool false,.slice none 0 0]/\Ext w wr) (fun _ s6 _=>n-(intOf s6).toNat)
 case atStart=>exact⟨0,n1,A1,c1,Nat.zero_le _,rfl,rfl,eM.out,ag.out,ar.out⟩
 case round=>
  obtain⟨k,m,A,c,hk,rfl,rfl,ho,hb,hx⟩:=hrel;have HO:=hid ho;have HB:=hid hb;have HX:=hid hx;have cB:=hb.lt;by_cases hlt:k<n
  ·have HS:=hid (EC wr _ _ 10 0 ho.arr (by have:=oM.out k hk;omega) (by decide) (by decide));rw[Ad,Nat.add_zero,<-Nat.pow_succ,show ((10:Nat):Int)=10 from rfl,show ((0:Nat):Int)=0 from rfl]at HS;clear ho hb hx;go_wp2_with fail;refine HS.out.mono ?_
   rintro e w2 ⟨v2,rfl,cM,ah⟩;have ee:=hid (cM.mono cB);have aY:=hid (HB.out.ext ah);have aP:=hid (HX.out.trans ah);obtain⟨n2,A2,c2,rfl⟩:=cM.arr.2.shape;clear cM ah;go_wp2_with fail;go_roundw
   case rel=>exact⟨k+1,n2,A2,c2,by omega,by go_num,rfl,ee.out,aY.out,aP.out⟩
   case measure=>simp[intOf];omega
  ·obtain rfl:k=n:=by omega
   have HI:=hid (Cq wr false _ _ ho.arr (by have:=oM.out k hk;omega));rw[Ad]at HI;clear ho hb hx;go_wp2_with fail;refine HI.out.mono ?_
   rintro e w2 ⟨v2,rfl,ba,ah⟩;have fL:=hid (ba.mono cB);have hb2:=HB.out.ext ah;have aY:=hid hb2;have aP:=hid (HX.out.trans ah);obtain⟨b2,n2,A2,c2,rfl⟩:=ba.shape;have k0:=hb2.two;clear ba ah hb2;go_wp2_with fail;obtain⟨ak,ae⟩:=BN aY.out (.bool b2) (.slice A2 n2 c2);refine bodyPost_ret (v:= .agg #[.bool b2,.slice A2 n2 c2]) (by simp[results,Tryz.results171,go_sem,ak,ae]) rfl ?_
   have ac:=AL.stored aY.out fL.out (Nat.lt_succ_self _) aP.out (Nat.le_refl _);exact⟨_,rfl,ac⟩
def TX(w:World)(l:List UInt8)(e:Ending)(w':World):Prop:=
 ∃a b:List UInt8,e= .returned (.tuple #[str a,str b,.bool (Cu l)])/\(Cu l=true->a=whole l/\b=AS l)/\Ext w w'
theorem Ot{l:List UInt8}{k:Nat}(h:AF l=true)(hk:l.length=k+1):(AS l=[]->Ae l k=46)/\(AS l≠[]->((AS l).getLast? == some 48)=((Ae l k:Int) == 48)):=by
 rcases B5 l with ⟨_,h2⟩|⟨h1,_⟩
 ·have hg:Ae l k=Ae (whole l++46::AS l) k:=congrArg (fun z=>Ae z k) h2;have aB:=congrArg List.length h2;rw[List.length_append,List.length_cons,hk]at aB;constructor
  ·intro hp;rw[hg];rw[hp]at aB ⊢;simp only[List.length_nil]at aB;unfold Ae;rw[List.getD_eq_getElem?_getD,List.getElem?_append_right (by omega),show k-(whole l).length=0 by omega];rfl
  ·intro hp;obtain⟨j,hj⟩:∃j,(AS l).length=j+1:=⟨(AS l).length-1,by have:=List.length_pos_iff.2 hp;omega⟩;rw[Kc (AS l) j hj,hg];have:Ae (whole l++46::AS l) k=Ae (AS l) j:=by
    unfold Ae;rw[List.getD_eq_getElem?_getD,List.getD_eq_getElem?_getD,List.getElem?_append_right (by omega),show k-(whole l).length=j+1 by omega,List.getElem?_cons_succ]
   rw[this]
 ·rw[h]at h1;cases h1
theorem IT{l:List UInt8}{k:Nat}(ha:Dq l=true)(h:AF l=true)(hp:AS l≠[])(hk:l.length=k+1):48<=Ae l k:=by
 rcases B5 l with ⟨_,h2⟩|⟨h1,_⟩
 ·have hg:Ae l k=Ae (whole l++46::AS l) k:=congrArg (fun z=>Ae z k) h2;have aB:=congrArg List.length h2;rw[List.length_append,List.length_cons,hk]at aB;obtain⟨j,hj⟩:∃j,(AS l).length=j+1:=⟨(AS l).length-1,by have:=List.length_pos_iff.2 hp;omega⟩;have h3:Ae (whole l++46::AS l) k=Ae (AS l) j:=by
   unfold Ae;rw[List.getD_eq_getElem?_getD,List.getD_eq_getElem?_getD,List.getElem?_append_right (by omega),show k-(whole l).length=j+1 by omega,List.getElem?_cons_succ]
  rw[hg,h3,Bq _ _ (by omega)];have h4:Bk (AS l)[j]=true:=by
   unfold Dq at ha;rw[List.all_append,Bool.and_eq_true]at ha;exact List.all_eq_true.1 ha.2 _ (List.getElem_mem _)
  unfold Bk at h4;simp only[Bool.and_eq_true,decide_eq_true_eq]at h4;exact h4.1
 ·rw[h]at h1;cases h1
theorem Mm{l:List UInt8}(h:0<(whole l).length):((whole l)[0]? == some 48)=((Ae l 0:Int) == 48):=by
 obtain⟨k,hk⟩:∃k,(whole l).length=k+1:=⟨(whole l).length-1,by omega⟩;rw[FZ (whole l) k hk];have:Ae (whole l) 0=Ae l 0:=by
  have h1:=FN l;rw[<-h1];unfold Ae;rw[List.getD_eq_getElem?_getD,List.getD_eq_getElem?_getD,List.getElem?_take_of_lt h]
 rw[this]
theorem KC(w:World)(l:List UInt8)(hl:l.length<=1073741824):
  Calls Tryz.prog 169 #[str l] w (TX w l):=by
 go_enter Tryz.func169,Tryz.ntmps169;go_wp2_with fail;go_loopw [5,6] (fun s5 s6 wr=>∃i p:Nat,i<=l.length/\s6= .int .i64 (i:Int)/\s5= .int .i64 (p:Int)/\Hid (Dq (l.take i)=true)/\Hid (p=if AF (l.take i) then (whole l).length else l.length)/\w=wr) (fun _ s6 _=>l.length-(intOf s6).toNat)
 case atStart=>exact⟨0,l.length,Nat.zero_le _,rfl,rfl,hid (by rw[List.take_zero];rfl),hid (by rw[List.take_zero];rfl),rfl⟩
 case round=>
  obtain⟨i,p,hi,rfl,rfl,HA,HP,rfl⟩:=hrel;by_cases hlt:i<l.length
  ·have ac:=Pj hlt HA.out;have eK:=Bq l i hlt;have fV:=hid ac.1;have ka:=hid ac.2;have Zw:=hid (P8 l i hlt);have Zy:=hid (Mn (l:=l) (j:=i));have aA:Hid (Dq (l.take (i+1))=false->Cu l=false):=hid (fun h=>by rw[Cf,Q0 h,Bool.and_false]);have eS:=CA l i;clear ac;generalize l[i]=c at *;have ue:(c == 46)=((Ae l i:Int) == 46):=by
    rw[eK,Bool.eq_iff_iff];simp only[beq_iff_eq];constructor
    ·intro e;rw[e];rfl
    ·intro e;apply UInt8.toNat_inj.1;have:c.toNat=46:=by omega
     rw[this];rfl
   have vG:Bk c=(decide (48<=Ae l i) && decide (Ae l i<=57)):=by rw[eK];rfl
   have gL:=hid ue;have rR:=hid vG;clear ue vG eK;cases hD:AF (l.take i)
   ·have hp:p=l.length:=by rw[HP.out,hD];rfl
    subst hp;cases h46:((Ae l i:Int) == 46)
    ·rcases Nat.lt_or_ge (Ae l i) 48 with uw|uw
     ·have HG:Hid (Cu l=false):=hid (aA.out (by rw[fV.out,hD,gL.out,h46,rR.out];simp;omega));have dE:decide ((Ae l i:Int)<48)=true:=by rw[decide_eq_true_iff];omega
      have qT:(Ae l i:Int)<48:=by omega
      clear hD;go_wp2_with fail;go_ret3;exact⟨[],[],by rw[HG.out];rfl,(fun h=>by rw[HG.out]at h;cases h),Ext.refl _⟩
     ·have dE:decide ((Ae l i:Int)<48)=false:=by simp;omega
      have qT:¬(Ae l i:Int)<48:=by omega
      rcases Nat.lt_or_ge 57 (Ae l i) with yz|yz
      ·have HG:Hid (Cu l=false):=hid (aA.out (by rw[fV.out,hD,gL.out,h46,rR.out];simp;omega));have ed:decide ((57:Int)<(Ae l i:Int))=true:=by rw[decide_eq_true_iff];omega
       have qS:(57:Int)<(Ae l i:Int):=by omega
       clear hD;go_wp2_with fail;go_ret3;exact⟨[],[],by rw[HG.out];rfl,(fun h=>by rw[HG.out]at h;cases h),Ext.refl _⟩
      ·have ed:decide ((57:Int)<(Ae l i:Int))=false:=by simp;omega
       have qS:¬(57:Int)<(Ae l i:Int):=by omega
       have ir:Hid (Dq (l.take (i+1))=true):=hid (by rw[fV.out,gL.out,h46,rR.out];simp;omega);have ef:Hid (AF (l.take (i+1))=AF (l.take i)):=hid (by rw[ka.out,gL.out,h46,Bool.or_false]);clear hD;go_wp2_with fail;go_roundw
       case rel=>exact⟨i+1,_,by omega,by go_num,rfl,ir,hid (by rw[ef.out];exact HP.out),(by first|rfl|trivial)⟩
       case measure=>simp[intOf];omega
    ·have HN:Hid ((whole l).length=i):=hid (Zw.out hD (by have:=gL.out;rw[h46]at this;simpa using this));have ir:Hid (Dq (l.take (i+1))=true):=hid (by rw[fV.out,hD,gL.out,h46];rfl);have ef:Hid (AF (l.take (i+1))=true):=hid (by rw[ka.out,gL.out,h46,Bool.or_true]);have vw:((l.length:Int) == (l.length:Int))=true:=by simp
     clear hD;go_wp2_with fail;go_roundw
     case rel=>exact⟨i+1,i,by omega,by go_num,rfl,ir,hid (by rw[ef.out,HN.out];rfl),(by first|rfl|trivial)⟩
     case measure=>simp[intOf];omega
   ·have iZ:p=(whole l).length:=by rw[HP.out,hD];rfl
    have hlt2:=Zy.out hD;have qk:((p:Int) == (l.length:Int))=false:=by rw[beq_eq_false_iff_ne];omega
    cases h46:((Ae l i:Int) == 46)
    ·rcases Nat.lt_or_ge (Ae l i) 48 with uw|uw
     ·have HG:Hid (Cu l=false):=hid (aA.out (by rw[fV.out,hD,gL.out,h46,rR.out];simp;omega));have dE:decide ((Ae l i:Int)<48)=true:=by rw[decide_eq_true_iff];omega
      have qT:(Ae l i:Int)<48:=by omega
      clear hD;go_wp2_with fail;go_ret3;exact⟨[],[],by rw[HG.out];rfl,(fun h=>by rw[HG.out]at h;cases h),Ext.refl _⟩
     ·have dE:decide ((Ae l i:Int)<48)=false:=by simp;omega
      have qT:¬(Ae l i:Int)<48:=by omega
      rcases Nat.lt_or_ge 57 (Ae l i) with yz|yz
      ·have HG:Hid (Cu l=false):=hid (aA.out (by rw[fV.out,hD,gL.out,h46,rR.out];simp;omega));have ed:decide ((57:Int)<(Ae l i:Int))=true:=by rw[decide_eq_true_iff];omega
       have qS:(57:Int)<(Ae l i:Int):=by omega
       clear hD;go_wp2_with fail;go_ret3;exact⟨[],[],by rw[HG.out];rfl,(fun h=>by rw[HG.out]at h;cases h),Ext.refl _⟩
      ·have ed:decide ((57:Int)<(Ae l i:Int))=false:=by simp;omega
       have qS:¬(57:Int)<(Ae l i:Int):=by omega
       have ir:Hid (Dq (l.take (i+1))=true):=hid (by rw[fV.out,gL.out,h46,rR.out];simp;omega);have ef:Hid (AF (l.take (i+1))=AF (l.take i)):=hid (by rw[ka.out,gL.out,h46,Bool.or_false]);clear hD;go_wp2_with fail;go_roundw
       case rel=>exact⟨i+1,_,by omega,by go_num,rfl,ir,hid (by rw[ef.out];exact HP.out),(by first|rfl|trivial)⟩
       case measure=>simp[intOf];omega
    ·have uw:(Ae l i:Int)<48:=by
      have:(Ae l i:Int)=46:=by simpa using h46
      omega
     have HG:Hid (Cu l=false):=hid (aA.out (by rw[fV.out,hD,rR.out];simp;omega));have dE:decide ((Ae l i:Int)<48)=true:=by simpa using uw
     clear hD iZ hlt2;go_wp2_with fail;go_ret3;exact⟨[],[],by rw[HG.out];rfl,(fun h=>by rw[HG.out]at h;cases h),Ext.refl _⟩
  ·obtain rfl:i=l.length:=by omega
   rw[List.take_of_length_le (Nat.le_refl _)]at HA HP;have iZ:p=(whole l).length:=by
    rw[HP.out];cases hD:AF l
    ·rw[Fc hD];rfl
    ·rfl
   subst iZ;clear HP;rcases Nat.eq_zero_or_pos (whole l).length with dO|dO
   ·have HG:Hid (Cu l=false):=hid (by
     have h1:whole l=[]:=List.eq_nil_of_length_eq_zero dO;have h2:GX l=true:=by unfold GX;rw[h1];simp
     rw[Cf,h2];rfl)
    have hz:(((whole l).length:Int) == 0)=true:=by rw[dO];rfl
    clear dO;go_wp2_with fail;go_ret3;exact⟨[],[],by rw[HG.out];rfl,(fun h=>by rw[HG.out]at h;cases h),Ext.refl _⟩
   ·have hz:(((whole l).length:Int) == 0)=false:=by rw[beq_eq_false_iff_ne];omega
    have WZ:=F5 l;have k7:(0:Int)<(l.length:Int):=by omega
    have vS:Hid ((whole l == [])=false):=hid (by rw[beq_eq_false_iff_ne];intro e;rw[e]at dO;simp at dO);have mv:=Mm dO;rcases Nat.lt_or_ge 1 (whole l).length with VL|VL
    ·have hd:(1:Int)<((whole l).length:Int):=by omega
     cases hb0:((Ae l 0:Int) == 48)
     ·have uK:Hid (((whole l)[0]? == some 48 && decide (1<(whole l).length))=false):=hid (by rw[mv,hb0];rfl);clear mv;cases hD:AF l
      ·have p6:=Fc hD;have HG:Hid (Cu l=true):=hid (by rw[Cf,HA.out,Es (by rw[hD];rfl),vS.out,uK.out];rfl);have qk:(((whole l).length:Int) == (l.length:Int))=true:=by rw[beq_iff_eq];omega
       have oi:¬((whole l).length:Int)<(l.length:Int):=by omega
       have HE:Hid (whole l=l/\AS l=[]):=hid (by
        rcases B5 l with ⟨h1,_⟩|⟨_,h2,h3⟩
        ·rw[hD]at h1;cases h1
        ·exact⟨h2.symm,h3⟩)
       clear hD p6;go_wp2_with fail;go_ret3;exact⟨l,[],by rw[HG.out];rfl,(fun _=>⟨HE.out.1.symm,HE.out.2.symm⟩),Ext.refl _⟩
      ·have xy:(whole l).length<l.length:=of_decide_eq_true hD;have qk:(((whole l).length:Int) == (l.length:Int))=false:=by rw[beq_eq_false_iff_ne];omega
       have oi:((whole l).length:Int)<(l.length:Int):=by omega
       obtain⟨k,hk⟩:∃k,l.length=k+1:=⟨l.length-1,by omega⟩;have xG:(l.length:Int)-1=(k:Int):=by omega
       have mj:(k:Int)<(l.length:Int):=by omega
       have jj:=hid (Ot hD hk);rcases Nat.eq_zero_or_pos (AS l).length with hp0|hp0
       ·have fx:AS l=[]:=List.eq_nil_of_length_eq_zero hp0;have HG:Hid (Cu l=false):=hid (by rw[Cf,Fm (by rw[hD,fx];rfl)];rfl);have eK:=jj.out.1 fx;have aq:((Ae l k:Int) == 48)=false:=by rw[eK];rfl
        have hb2:((Ae l k:Int) == 46)=true:=by rw[eK];rfl
        clear hD hk hp0 fx eK;go_wp2_with fail;go_ret3;exact⟨[],[],by rw[HG.out];rfl,(fun h=>by rw[HG.out]at h;cases h),Ext.refl _⟩
       ·have fx:AS l≠[]:=fun e=>by rw[e]at hp0;simp at hp0
        have iB:(AS l == [])=false:=by rw[beq_eq_false_iff_ne];exact fx
        have eK:=jj.out.2 fx;cases hb:((Ae l k:Int) == 48)
        ·have HG:Hid (Cu l=true):=hid (by rw[Cf,HA.out,Es (by rw[hD,iB,eK,hb];rfl),vS.out,uK.out];rfl);have hb2:((Ae l k:Int) == 46)=false:=by
          have h1:=IT HA.out hD fx hk;rw[beq_eq_false_iff_ne];omega
         have yT:=hid (FN l);have zN:=hid (Kl hD);have a5:IntKind.i64.wrap (((whole l).length:Int)+1)=((whole l).length:Int)+1:=IntWalk.i64_in _ (by omega);have ck:(0:Int)<=((whole l).length:Int)+1:=by omega
         have eP:((whole l).length:Int)+1<=(l.length:Int):=by omega
         have hw4:(((whole l).length:Int)+1).toNat=(whole l).length+1:=by omega
         have eh:((whole l).length:Int)<=(l.length:Int):=by omega
         clear hD hk hp0 fx eK iB;go_wp2_with fail;go_quiet (fail);go_wp2_with fail;go_ret3;exact⟨_,_,by rw[HG.out];rfl,(fun _=>⟨yT.out,zN.out⟩),(Ext.refl _).drewN _⟩
        ·have HG:Hid (Cu l=false):=hid (by rw[Cf,Fm (by rw[hD,iB,eK,hb];rfl)];rfl);clear hD hk hp0 fx eK iB;go_wp2_with fail;go_ret3;exact⟨[],[],by rw[HG.out];rfl,(fun h=>by rw[HG.out]at h;cases h),Ext.refl _⟩
     ·have HG:Hid (Cu l=false):=hid (by
       have h2:GX l=true:=by unfold GX;rw[mv,hb0];simp[VL]
       rw[Cf,h2];rfl)
      clear mv;go_wp2_with fail;go_ret3;exact⟨[],[],by rw[HG.out];rfl,(fun h=>by rw[HG.out]at h;cases h),Ext.refl _⟩
    ·have hd:¬(1:Int)<((whole l).length:Int):=by omega
     have uK:Hid (((whole l)[0]? == some 48 && decide (1<(whole l).length))=false):=hid (by rw[decide_eq_false (by omega),Bool.and_false]);clear mv;cases hD:AF l
     ·have p6:=Fc hD;have HG:Hid (Cu l=true):=hid (by rw[Cf,HA.out,Es (by rw[hD];rfl),vS.out,uK.out];rfl);have qk:(((whole l).length:Int) == (l.length:Int))=true:=by rw[beq_iff_eq];omega
      have oi:¬((whole l).length:Int)<(l.length:Int):=by omega
      have HE:Hid (whole l=l/\AS l=[]):=hid (by
       rcases B5 l with ⟨h1,_⟩|⟨_,h2,h3⟩
       ·rw[hD]at h1;cases h1
       ·exact⟨h2.symm,h3⟩)
      clear hD p6;go_wp2_with fail;go_ret3;exact⟨l,[],by rw[HG.out];rfl,(fun _=>⟨HE.out.1.symm,HE.out.2.symm⟩),Ext.refl _⟩
     ·have xy:(whole l).length<l.length:=of_decide_eq_true hD;have qk:(((whole l).length:Int) == (l.length:Int))=false:=by rw[beq_eq_false_iff_ne];omega
      have oi:((whole l).length:Int)<(l.length:Int):=by omega
      obtain⟨k,hk⟩:∃k,l.length=k+1:=⟨l.length-1,by omega⟩;have xG:(l.length:Int)-1=(k:Int):=by omega
      have mj:(k:Int)<(l.length:Int):=by omega
      have jj:=hid (Ot hD hk);rcases Nat.eq_zero_or_pos (AS l).length with hp0|hp0
      ·have fx:AS l=[]:=List.eq_nil_of_length_eq_zero hp0;have HG:Hid (Cu l=false):=hid (by rw[Cf,Fm (by rw[hD,fx];rfl)];rfl);have eK:=jj.out.1 fx;have aq:((Ae l k:Int) == 48)=false:=by rw[eK];rfl
       have hb2:((Ae l k:Int) == 46)=true:=by rw[eK];rfl
       clear hD hk hp0 fx eK;go_wp2_with fail;go_ret3;exact⟨[],[],by rw[HG.out];rfl,(fun h=>by rw[HG.out]at h;cases h),Ext.refl _⟩
      ·have fx:AS l≠[]:=fun e=>by rw[e]at hp0;simp at hp0
       have iB:(AS l == [])=false:=by rw[beq_eq_false_iff_ne];exact fx
       have eK:=jj.out.2 fx;cases hb:((Ae l k:Int) == 48)
       ·have HG:Hid (Cu l=true):=hid (by rw[Cf,HA.out,Es (by rw[hD,iB,eK,hb];rfl),vS.out,uK.out];rfl);have hb2:((Ae l k:Int) == 46)=false:=by
         have h1:=IT HA.out hD fx hk;rw[beq_eq_false_iff_ne];omega
        have yT:=hid (FN l);have zN:=hid (Kl hD);have a5:IntKind.i64.wrap (((whole l).length:Int)+1)=((whole l).length:Int)+1:=IntWalk.i64_in _ (by omega);have ck:(0:Int)<=((whole l).length:Int)+1:=by omega
        have eP:((whole l).length:Int)+1<=(l.length:Int):=by omega
        have hw4:(((whole l).length:Int)+1).toNat=(whole l).length+1:=by omega
        have eh:((whole l).length:Int)<=(l.length:Int):=by omega
        clear hD hk hp0 fx eK iB;go_wp2_with fail;go_quiet (fail);go_wp2_with fail;go_ret3;exact⟨_,_,by rw[HG.out];rfl,(fun _=>⟨yT.out,zN.out⟩),(Ext.refl _).drewN _⟩
       ·have HG:Hid (Cu l=false):=hid (by rw[Cf,Fm (by rw[hD,iB,eK,hb];rfl)];rfl);clear hD hk hp0 fx eK iB;go_wp2_with fail;go_ret3;exact⟨[],[],by rw[HG.out];rfl,(fun h=>by rw[HG.out]at h;cases h),Ext.refl _⟩
def BR(w:World)(l:List UInt8):World:=Lib.bytesWorld w 5 ⟨l.toArray⟩
theorem Fk(w:World)(l:List UInt8):Ext w (BR w l):=by
 refine⟨?_,?_,?_,?_,fun k hk=>Lib.bytesWorld_at_old w _ _ k hk⟩
 ·simp[BR,Lib.bytesWorld,World.freeze,World.alloc,World.drew,-World.alloc_eq,-World.drew_eq]
 ·simp[BR,Lib.bytesWorld,World.freeze,World.alloc,World.drew,-World.alloc_eq,-World.drew_eq]
 ·simp[BR,Lib.bytesWorld,World.freeze,World.alloc,World.drew,-World.alloc_eq,-World.drew_eq]
 ·unfold BR;rw[Lib.bytesWorld_size];omega
theorem EQ(w:World)(l:List UInt8)(j:Nat)(h:j<l.length):(BR w l).cell? ⟨w.heap.size,j,none⟩=some (.int .u8 (Ae l j:Int)):=by
 unfold BR Ae;rw[Lib.bytesWorld_cell w _ _ j (by rw[BZ];exact h)]
theorem NR(w:World)(l:List UInt8):w.heap.size<(BR w l).heap.size:=by unfold BR;rw[Lib.bytesWorld_size];omega
theorem Dk(w:World)(l:List UInt8):∃c,(convert 9 221 (str l)).run Tryz.prog w= .ok (.slice (some ⟨w.heap.size,0,none⟩) l.length c) (BR w l)/\l.length<=c:=by
 have:=Lib.run_convert_string_bytes (P:=Tryz.prog) w 9 221 5 ⟨l.toArray⟩ Tryz.underlying9 Tryz.underlying221 Tryz.underlying5;rw[BZ]at this;exact⟨_,this,grownCap_ge w l.length 0 _⟩
theorem L6(n:Nat)(d:Nat):I3 (n:Int) ((d:Nat):Int)=EG (n:Int) d/\I4 (n:Int) ((d:Nat):Int)=Ec (n:Int) d:=by
 unfold I3 EG I4 Ec;have h1:decide ((n:Int)<0)=false:=by simp
 have h2:decide ((d:Int)<0)=false:=by simp
 rw[h1,h2,Int.natAbs_natCast,Int.natAbs_natCast];exact⟨rfl,rfl⟩
theorem Kz(w:World)(l:List UInt8)(h:400<l.length):Calls Tryz.prog 126 #[str l] w (DG w l):=by
 have hc:AX l=7:=if_pos h;have h':(400:Int)<(l.length:Int):=by omega
 have HC:=hid hc;clear h hc;go_enter Tryz.func126,Tryz.ntmps126;go_wp2_with fail;refine bodyPost_ret (v:= .tuple #[.agg #[.bool false,.slice none 0 0,.slice none 0 0],.int .i64 7]) (by simp[results,Tryz.results126,go_sem]) rfl ?_
 exact⟨_,by rw[HC.out];rfl,by rw[HC.out];exact Aj.zero _ _,(Ext.refl w).alloc _⟩
theorem E5(w:World)(l:List UInt8):Calls Tryz.prog 126 #[str l] w (DG w l):=by
 rcases Nat.lt_or_ge 400 l.length with hl|hl
 ·exact Kz w l hl
 have HD:=hid (fun W=>KC W l (by omega));have uy:¬(400:Int)<(l.length:Int):=by omega
 cases hg:Cu l
 ·have HC:Hid (AX l=6):=hid (by unfold AX;rw[if_neg (by omega),hg];rfl);have HG:=hid hg;clear hg;go_enter Tryz.func126,Tryz.ntmps126;go_wp2_with fail;refine(HD.out _).mono ?_
  rintro e w1 ⟨a,b,rfl,_,aj⟩;rw[HG.out];have ar:=hid (((Ext.refl w).alloc (.cells #[.bool false,.slice none 0 0,.slice none 0 0] 26)).trans aj);have hk:=(Blk.new w 26 #[.bool false,.slice none 0 0,.slice none 0 0]).ext aj;have ag:=hid hk;have k0:=hk.three;clear aj hk;go_wp2_with fail;obtain⟨ak,ae,hr2⟩:=Ak ag.out (.bool false) (.slice none 0 0) (.slice none 0 0);refine bodyPost_ret (v:= .tuple #[.agg #[.bool false,.slice none 0 0,.slice none 0 0],.int .i64 6]) (by simp[results,Tryz.results126,go_sem,ak,ae,hr2]) rfl ?_
  exact⟨_,by rw[HC.out];rfl,by rw[HC.out];exact Aj.zero _ _,((ar.out.setCell (Nat.le_refl _) _).setCell (Nat.le_refl _) _).setCell (Nat.le_refl _) _⟩
 ·have HC:Hid (AX l=0):=hid (by unfold AX;rw[if_neg (by omega),hg];rfl);have HG:=hid hg;have hall:Dq l=true:=by
   rw[Cf,Bool.and_eq_true]at hg;exact hg.2
  have hpl:(AS l).length<=l.length:=by
   rcases B5 l with ⟨_,h1⟩|⟨_,_,h2⟩
   ·have:=congrArg List.length h1;simp at this;omega
   ·rw[h2];simp
  have lY:=F5 l;have jh:Hid (Ic l=EG (Bd (whole l++AS l)) (10 ^ (AS l).length)):=hid rfl;have oP:Hid (If l=Ec (Bd (whole l++AS l)) (10 ^ (AS l).length)):=hid rfl;unfold Dq at hall;clear hg;have uo:∀W',(binOp .add 9 (str (whole l)) (str (AS l))).run Tryz.prog W'= .ok (str (whole l++AS l)) W':=Hi _ _ (by omega);have hL:(whole l++AS l).length<=800:=by rw[List.length_append];omega
  go_enter Tryz.func126,Tryz.ntmps126;go_wp2_with fail;refine(HD.out _).mono ?_
  rintro e w1 ⟨a,b,rfl,up,aj⟩;obtain⟨rfl,rfl⟩:=up HG.out;rw[HG.out];generalize whole l=W at *;generalize AS l=P at *;have ar:=hid (((Ext.refl w).alloc (.cells #[.bool false,.slice none 0 0,.slice none 0 0] 26)).trans aj);have ag:=hid ((Blk.new w 26 #[.bool false,.slice none 0 0,.slice none 0 0]).ext aj);obtain⟨cb,X5,oA⟩:=Dk w1 (W++P);have ZD:=hid (fun j h=>EQ w1 (W++P) j h);have cQ:=hid (Fk w1 (W++P));have dl:=hid (NR w1 (W++P));clear aj up HD HG;generalize W++P=L at *;generalize BR w1 L=wb at *;have fg:=hid hall;clear hall;go_wp2_with fail;clear X5 uo;go_loopw [7,28] (fun s7 s28 wr=>∃(k m:Nat) (A:Option Addr) (c:Nat),k<=L.length/\s28= .int .i64 (k:Int)/\s7= .slice A m c/\Own (w.heap.size+1) wr s7 (Ac (Bd (L.take k)))/\Ext wb wr) (fun _ s28 _=>L.length-(intOf s28).toNat)
  case atStart=>exact⟨0,0,none,0,Nat.zero_le _,rfl,rfl,Own.none_ _ _,Ext.refl _⟩
  case round=>
   obtain⟨k,m,A,c,hk,rfl,rfl,ho,hx⟩:=hrel;have HO:=hid ho;have HX:=hid hx;have cB:w.heap.size+1<=wr.heap.size:=by
    have h1:=ag.out.lt;have h2:=dl.out;have h3:=hx.size;omega
   have qt:(Ac (Bd (L.take k))).length<=800:=by
    refine DF (Gg _ ?_) (by rw[List.length_take];omega);rw[List.all_eq_true];intro x cK;exact List.all_eq_true.1 fg.out x (List.mem_of_mem_take cK)
   by_cases hlt:k<L.length
   ·have eK:=(hx.cell dl.out).trans (ZD.out k hlt);have gD:=Bq L k hlt;have lG:Bk L[k]=true:=List.all_eq_true.1 fg.out _ (List.getElem_mem hlt);have gn:=IX L k hlt;rw[<-gD]at gn;unfold Bk at lG;rw[<-gD]at lG;simp only[Bool.and_eq_true,decide_eq_true_eq]at lG;obtain⟨d1,d2⟩:=lG;generalize Ae L k=b at *;have E1:=hid (show ((b:Int)-48)=((b-48:Nat):Int) by omega);have HS:=hid (EC wr _ _ 10 (b-48) ho.arr (by omega) (by decide) (by omega));rw[Ad]at HS;have HN:=hid (show Bd (L.take (k+1))=Bd (L.take k)*10+(b-48) by rw[gn];omega);clear ho hx gD gn qt oA;go_wp2_with fail;rw[E1.out];refine HS.out.mono ?_
    rintro e w2 ⟨v2,rfl,cM,ah⟩;rw[<-HN.out]at cM;have ee:=hid (cM.mono cB);have aP:=hid (HX.out.trans ah);obtain⟨n2,A2,c2,rfl⟩:=cM.shape;clear cM ah;go_wp2_with fail;go_roundw
    case rel=>exact⟨k+1,n2,A2,c2,by omega,by go_num,rfl,ee.out,aP.out⟩
    case measure=>simp[intOf];omega
   ·obtain rfl:k=L.length:=by omega
    rw[List.take_of_length_le (Nat.le_refl _)]at HO ho qt;have pI:=hid (Cq wr false _ _ ho.arr (by omega));rw[Ad]at pI;have hsg:sgn false (Bd L)=((Bd L:Nat):Int):=rfl;rw[hsg]at pI;have yW:=hid (fun W'=>QN W' P.length (by omega));have W9:(Ac (10 ^ P.length)).length<=801:=DF (k:=P.length+1) (Nat.pow_lt_pow_right (by decide) (by omega)) (by omega);have dM:=hid (fun W' a b h1 h2=>LB W' a b ((Bd L:Nat):Int) ((10 ^ P.length:Nat):Int) h1 h2 (by rw[Int.natAbs_natCast];omega) (by rw[Int.natAbs_natCast];omega) (by
     have:0<10 ^ P.length:=Nat.pow_pos (by decide);omega))
    rw[(L6 (Bd L) (10 ^ P.length)).1,(L6 (Bd L) (10 ^ P.length)).2]at dM;have iQ:=hid ((ar.out.trans cQ.out).trans hx);have Wl:=hid (((ag.out.ext cQ.out)).ext hx);clear ho hx qt W9 hsg oA;go_wp2_with fail;refine pI.out.mono ?_
    rintro e w5 ⟨v5,rfl,eB,hx5⟩;have vd:=hid eB;obtain⟨b5,n5,A5,c5,rfl⟩:=eB.shape;have cW:=hid (iQ.out.trans hx5);have gM:=hid (Wl.out.ext hx5);clear eB hx5;go_wp2_with fail;refine(yW.out _).mono ?_
    rintro e w6 ⟨v6,rfl,la,cF⟩;have vc:=hid la;obtain⟨b6,n6,A6,c6,rfl⟩:=la.shape;have zG:=hid (vd.out.ext cF);have cV:=hid (cW.out.trans cF);have kP:=hid (gM.out.ext cF);clear la cF;go_wp2_with fail;refine(dM.out _ _ _ zG.out.arr vc.out.arr).mono ?_
    rintro e w8 ⟨v8,rfl,cw,cp⟩;obtain⟨b8,n8,A8,c8,oW,pM,pt,rfl⟩:=cw.shape;have rm:=hid cw;have df:=hid (cV.out.trans cp);have hk:=kP.out.ext cp;have iW:=hid hk;have mP:=hid cV.out.size;have m7:=hid kP.out.lt;clear cw cp;have k0:=hk.three;clear hk;go_wp2_with fail;obtain⟨ak,ae,hr2⟩:=Ak iW.out (.bool b8) (.slice A8 n8 c8) (.slice pM oW pt);refine bodyPost_ret (v:= .tuple #[.agg #[.bool b8,.slice A8 n8 c8,.slice pM oW pt],.int .i64 0]) (by simp[results,Tryz.results126,go_sem,ak,ae,hr2]) rfl ?_
    have dj:=rm.out.put (w:=w) m7.out mP.out;exact⟨_,by rw[HC.out];rfl,by rw[HC.out,if_pos rfl,if_pos rfl,jh.out,oP.out];exact dj,((df.out.setCell (Nat.le_refl _) _).setCell (Nat.le_refl _) _).setCell (Nat.le_refl _) _⟩
theorem Pg(w:World)(l:List UInt8)(hl:l.length<=1073741824):Calls Tryz.prog 99 #[str l] w fun e w'=>e= .returned (.bool (Dv l))/\Ext w w':=by
 have HW:=hid (fun W=>Pq W l hl);have HR:=hid (fun W=>JA W l);have h:Dv l=(CT l && !Bc l):=by rw[Ci];rfl
 have H:=hid h;clear h;cases hw:CT l
 ·rw[hw]at HW H;clear hw;go_enter Tryz.func99,Tryz.ntmps99;go_wp2_with fail;refine(HW.out _).mono ?_
  rintro e w1 ⟨rfl,rfl⟩;go_wp2_with fail;go_ret;exact⟨by rw[H.out];rfl,Ext.refl _⟩
 ·rw[hw]at HW H;clear hw;generalize Bc l=r at *;go_enter Tryz.func99,Tryz.ntmps99;go_wp2_with fail;refine(HW.out _).mono ?_
  rintro e w1 ⟨rfl,rfl⟩;go_wp2_with fail;refine(HR.out _).mono ?_
  rintro e w2 ⟨rfl,hx⟩;have HX:=hid hx;clear hx;go_wp2_with fail;go_ret;exact⟨by rw[H.out];rfl,HX.out⟩
theorem H7(t:List UInt8):(⟨t.toArray⟩:ByteArray).toList.isEmpty=(t == []):=by
 rw[<-decide_eq_emptyBytes,Bool.eq_iff_iff];simp only[decide_eq_true_eq,beq_iff_eq];constructor
 ·intro h;have:=congrArg (fun b:ByteArray=>b.data.toList) h
  simpa using this
 ·intro h;subst h;rfl
def ndV(x:Nd):Value:= .agg #[.int .i64 x.kind,.int .i64 x.a,.int .i64 x.b,.int .i64 x.n,str x.text]
theorem J1(n:Int):decide (-64<=n/\n<=64)=(decide (-64<=n) && decide (n<=64)):=by simp
theorem J0(w:World)(x:Nd)(hl:x.text.length<=1073741824):Calls Tryz.prog 173 #[ndV x] w fun e w'=>e= .returned (.bool (Ax x))/\Ext w w':=by
 obtain⟨k,a,b,n,t⟩:=x;simp only[ndV]at hl ⊢;have HP:=hid (fun W=>E5 W t);have HN:=hid (fun W=>Pg W t hl);obtain⟨s,hs⟩:∃s:ByteArray,s=⟨t.toArray⟩:=⟨_,rfl⟩;have ac:str t= .string s:=by rw[hs];rfl
 have hne:s.toList.isEmpty=(t == []):=by rw[hs];exact H7 t
 rw[ac]at HP HN ⊢;clear hs ac;have hb0:=Blk.new w 95 #[.int .i64 k,.int .i64 a,.int .i64 b,.int .i64 n,.string s];have cX:=hid ((Ext.refl w).alloc (.cells #[.int .i64 k,.int .i64 a,.int .i64 b,.int .i64 n,.string s] 95));have am:=hid hb0;have q0:=hb0.five;clear hb0;have hM:∀h:Bool,(Ax ⟨k,a,b,n,t⟩=(B8 ⟨k,a,b,n,t⟩ && BT ⟨k,a,b,n,t⟩)):=fun _=>rfl
 have key:(k=1)\/(k=2)\/(k≠1/\k≠2):=by omega
 rcases key with rfl|rfl|⟨eQ,hk2⟩
 ·by_cases hc0:AX t=0
  ·have H:Hid (Ax ⟨1,a,b,n,t⟩=(n == 0)):=hid (by unfold Ax B8 BT;simp[hc0]);have HC:=hid hc0;clear hc0 hM hne;generalize Ax ⟨1,a,b,n,t⟩=r at *;go_enter Tryz.func173,Tryz.ntmps173;go_wp2_with fail;refine(HP.out _).mono ?_
   rintro e w5 ⟨v5,rfl,cG,hx5⟩;obtain⟨b5,n5,A5,c5,n6,A6,c6,rfl⟩:=cG.shape;have cF:=hx5.alloc (.cells #[.bool b5,.slice A5 n5 c5,.slice A6 n6 c6] 26);have cV:=hid (cX.out.trans cF);have q0:=(am.out.ext cF).five;clear cG hx5 cF;rw[HC.out];go_wp2_with fail;go_ret;exact⟨by rw[H.out];rfl,cV.out⟩
  ·have H:Hid (Ax ⟨1,a,b,n,t⟩=false):=hid (by unfold Ax B8 BT;simp[hc0]);have oA:((AX t:Int) != 0)=true:=by
    rw[bne_iff_ne];omega
   clear hc0 hM hne;generalize Ax ⟨1,a,b,n,t⟩=r at *;generalize hce:(AX t:Int)=ce at *;clear q0;go_enter Tryz.func173,Tryz.ntmps173;have q0:=am.out.five;go_wp2_with fail;refine(HP.out _).mono ?_
   rintro e w5 ⟨v5,rfl,cG,hx5⟩;obtain⟨b5,n5,A5,c5,n6,A6,c6,rfl⟩:=cG.shape;have cF:=hx5.alloc (.cells #[.bool b5,.slice A5 n5 c5,.slice A6 n6 c6] 26);have cV:=hid (cX.out.trans cF);clear cG hx5 cF;rw[hce];go_wp2_with fail;go_ret;exact⟨by rw[H.out];rfl,cV.out⟩
 ·have H:Hid (Ax ⟨2,a,b,n,t⟩=(Dv t && (n == 0))):=hid (by unfold Ax B8 BT;simp);generalize Ax ⟨2,a,b,n,t⟩=r at *;clear hM hne;cases hnb:Dv t
  ·rw[hnb]at HN H;clear hnb;go_enter Tryz.func173,Tryz.ntmps173;go_wp2_with fail;refine(HN.out _).mono ?_
   rintro e w5 ⟨rfl,hx5⟩;have cV:=hid (cX.out.trans hx5);clear hx5;go_wp2_with fail;go_ret;exact⟨by rw[H.out];rfl,cV.out⟩
  ·rw[hnb]at HN H;clear hnb;go_enter Tryz.func173,Tryz.ntmps173;go_wp2_with fail;refine(HN.out _).mono ?_
   rintro e w5 ⟨rfl,hx5⟩;have cV:=hid (cX.out.trans hx5);have q0:=(am.out.ext hx5).five;clear hx5;go_wp2_with fail;go_ret;exact⟨by rw[H.out];rfl,cV.out⟩
 ·have e1:(k == 1)=false:=by rw[beq_eq_false_iff_ne];omega
  have e2:(k == 2)=false:=by rw[beq_eq_false_iff_ne];omega
  have H1:Hid (Ax ⟨k,a,b,n,t⟩=(s.toList.isEmpty && BT ⟨k,a,b,n,t⟩)):=hid (by rw[hne];unfold Ax B8;rw[if_neg eQ,if_neg hk2]);have H2:Hid (BT ⟨k,a,b,n,t⟩=if k=10 then decide (-64<=n/\n<=64) else n == 0):=hid rfl;generalize Ax ⟨k,a,b,n,t⟩=r at *;generalize BT ⟨k,a,b,n,t⟩=m at *;clear hM hne eQ hk2 HP HN hl;cases hsb:s.toList.isEmpty
  ·rw[hsb]at H1;go_enter Tryz.func173,Tryz.ntmps173;go_wp2_with fail;go_ret;exact⟨by rw[H1.out];rfl,cX.out⟩
  ·rw[hsb]at H1;by_cases h10:k=10
   ·subst h10;have H3:Hid (m=(decide (-64<=n) && decide (n<=64))):=hid (by rw[H2.out,if_pos rfl,J1]);by_cases hn: -64<=n
    ·have hd:decide (-64<=n)=true:=decide_eq_true hn;rw[hd]at H3;go_enter Tryz.func173,Tryz.ntmps173;go_wp2_with fail;go_ret;exact⟨by rw[H1.out,H3.out];rfl,cX.out⟩
    ·have hd:decide (-64<=n)=false:=decide_eq_false hn;rw[hd]at H3;go_enter Tryz.func173,Tryz.ntmps173;go_wp2_with fail;go_ret;exact⟨by rw[H1.out,H3.out];rfl,cX.out⟩
   ·have vO:(k == 10)=false:=by rw[beq_eq_false_iff_ne];exact h10
    have H3:Hid (m=(n == 0)):=hid (by rw[H2.out,if_neg h10]);clear h10;go_enter Tryz.func173,Tryz.ntmps173;go_wp2_with fail;go_ret;exact⟨by rw[H1.out,H3.out];rfl,cX.out⟩
end Big
end Go.Proofs.YtkoaogkknnelaaaGreatDoor
