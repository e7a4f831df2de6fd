import Derived.Test.YtkoaogkknnelaaaGreatDoorM40
import Derived.Test.YtkoaogkknnelaaaGreatDoorM39
import Derived.Test.YtkoaogkknnelaaaGreatDoorRows
import Derived.ProofKit
import Derived.LaidMore
import Derived.OpenShut
import Derived.Stop.Joined
import Derived.Lib.LaidTab
import Derived.Handed
import Derived.HandedShaped
import Derived.Deep.Strs
import Derived.ChangeMaps5
import Derived.Lib.SmallJoins
set_option linter.unusedVariables false
set_option linter.unusedSimpArgs false
set_option maxHeartbeats 16000000
set_option maxRecDepth 100000
namespace Go.Proofs.YtkoaogkknnelaaaGreatDoor
namespace Big
open Lib (hid)
open Go.RowKit
theorem M8(w:World)(s:List UInt8)(hm:BW w):Calls Tryz.prog 15 #[str s] w (NY w s):=by
 have oG:=hid (Pb w s hm);have HM:=hid hm;have eO:=hid (MV s);have qt:=O1 s;have sD:Hid (Ea s=if (Bb s).2.2≠0 then (none,(Bb s).2.1,(Bb s).2.2)
  else if (AZ (Bb s).1 ((Bb s).1.length+1) 0).2<(Bb s).1.length then (none,((Bb s).1.getD (AZ (Bb s).1 ((Bb s).1.length+1) 0).2 ⟨0,0,[]⟩).at_,6)
  else match (AZ (Bb s).1 ((Bb s).1.length+1) 0).1 with
   |none=>(none,s.length,6)
   |some x=>if x.big=false/\x.size<=200/\x.depth<=40 then (some x,s.length,0) else (none,0,7)):=hid rfl
 unfold Ir at oG;unfold NY;generalize Ea s=R at *;generalize (Bb s).2.1=sk at *;generalize (Bb s).2.2=se at *;generalize (Bb s).1=ts at *;clear hm;by_cases he0:se=0
 ·subst he0;have oc:(if (0:Nat)≠0 then ((none:Option Ex),sk,(0:Nat)) else if (AZ ts (ts.length+1) 0).2<ts.length then (none,(ts.getD (AZ ts (ts.length+1) 0).2 ⟨0,0,[]⟩).at_,6) else match (AZ ts (ts.length+1) 0).1 with|none=>(none,s.length,6)|some x=>if x.big=false/\x.size<=200/\x.depth<=40 then (some x,s.length,0) else (none,0,7))=(if (AZ ts (ts.length+1) 0).2<ts.length then (none,(ts.getD (AZ ts (ts.length+1) 0).2 ⟨0,0,[]⟩).at_,6) else match (AZ ts (ts.length+1) 0).1 with|none=>(none,s.length,6)|some x=>if x.big=false/\x.size<=200/\x.depth<=40 then (some x,s.length,0) else (none,0,7)):=by rw[if_neg (by simp)]
  have ll:=hid (sD.out.trans oc);clear sD oc;have sT:=Pz eO.out (ts.length+1);have dV:=DE ts (ts.length+1) 0 (Nat.zero_le _);have hz:(((0:Nat):Int))=0:=rfl;rw[hz]at oG;clear hz;obtain⟨n,hn⟩:∃n,n=ts.length:=⟨_,rfl⟩;have HN:=hid hn;rw[<-hn]at oG;clear hn;go_enter Tryz.func15,Tryz.ntmps15;go_wp2_with fail;refine oG.out.mono ?_
  rintro e w1 ⟨v1,rfl,ae,aj⟩;have wV:Ee w1 v1 ts:=Ee.of (by rw[HN.out]at ae;exact ae);obtain⟨A1,c1,rfl⟩:=Ap ae;obtain⟨w2,ck⟩:∃w2,w2=w1.alloc (.cells #[.slice A1 n c1,.int .i64 0,.bool false,.slice none 0 0,.bool false] 120):=⟨_,rfl⟩;have du:Ext w1 w2:=by rw[ck];exact(Ext.refl w1).alloc _
  have aP:=hid (aj.trans du);have lw:=hid (HM.out.ext (aj.trans du));have bc:RdR w1.heap.size w2 ts 0 false [] false (.slice A1 n c1) (.slice none 0 0):=⟨by rw[ck];exact Blk.new w1 _ _,AB.nil _ _,(Ia.of wV).below du,Nat.zero_le _,Nat.zero_le _,qt⟩;have V4:=hid bc;have vT:=hid ((Ia.of wV).below du);have yY:=hid (QP w1.heap.size ts (.slice A1 n c1) eO.out (ts.length+1) 0 (by omega) w2 [] false (.slice none 0 0) bc);have rO:Hid (w.heap.size<=w1.heap.size):=hid aj.size;clear ae aj wV du bc;go_upto_region 5 with fail;rw[<-ck];clear ck;generalize w1.heap.size=g at *;go_wp2_with fail;refine yY.out.mono ?_
  intro e w3 al;obtain⟨r,hr⟩:∃r,AZ ts (ts.length+1) 0=r:=⟨_,rfl⟩;rw[hr]at dV;have HR:=hid ll.out;rw[hr]at HR;have hall:∀b:Nat,b<ts.length->Hid (∃A:Addr,True):=fun _ _=>hid ⟨⟨0,0,none⟩,trivial⟩
  clear hall;obtain⟨_|x,b⟩:=r
  ·obtain⟨rfl,bC,jp,jr,bc,hk⟩:=al.none_ hr;have kE:=hk.below (ns:=[]) (AB.nil _ _) (Nat.le_of_lt V4.out.blk.lt);have ay:Hid (Ext w w3):=hid (aP.out.more (Below.mono kE rO.out));obtain⟨⟨k0,k1,k2,k3,k4⟩,_,t4⟩:=bc.blk.five';obtain⟨A9,c9,xV,pk⟩:=vT.out.below kE;injection xV with he1 he2 he3
   subst he1;clear he2 he3;simp only at HR;by_cases hb:b<ts.length
   ·obtain⟨bk,bJ,_,_,ua⟩:=pk (by omega);clear pk;subst bJ;have q1:=(ua b hb).2.1;have jK:(ts.getD b ⟨0,0,[]⟩).at_=ts[b].at_:=by rw[List.getD_eq_getElem?_getD,List.getElem?_eq_getElem hb];rfl
    have iR:Hid (R=(none,ts[b].at_,6)):=hid (by rw[HR.out,if_pos hb,jK]);have gC:b<n:=by rw[HN.out];exact hb
    have z1:decide (b<n)=true:=decide_eq_true gC;generalize ts[b].at_=ta at *;clear al hr bc hk kE ua jK HR ll hb dV;go_wp2_with fail;go_region;go_wp2_with fail;go_ret3;rw[iR.out];exact⟨_,rfl,ay.out.trans (Ext.refl w3).drew,RNd.nil _⟩
   ·have iR:Hid (R=(none,s.length,6)):=hid (by rw[HR.out,if_neg hb]);have gC:¬b<n:=by rw[HN.out];exact hb
    have z1:decide (b<n)=false:=decide_eq_false gC;clear al hr bc hk kE pk HR ll hb dV;go_wp2_with fail;go_ret3;rw[iR.out];exact⟨_,rfl,ay.out,RNd.nil _⟩
  ·obtain⟨rfl,bC,bc,hk⟩:=al.some_ hr;rw[Bool.false_or]at bc;have hw:=sT _ _ _ hr;have kE:=hk.below (ns:=[]) (AB.nil _ _) (Nat.le_of_lt V4.out.blk.lt);have ay:Hid (Ext w w3):=hid (aP.out.more (Below.mono kE rO.out));obtain⟨⟨k0,k1,k2,k3,k4⟩,_,t4⟩:=bc.blk.five';obtain⟨A9,c9,xV,pk⟩:=vT.out.below kE;injection xV with he1 he2 he3
   subst he1;clear he2 he3;simp only at HR;by_cases hb:b<ts.length
   ·obtain⟨bk,bJ,_,_,ua⟩:=pk (by omega);clear pk;subst bJ;have q1:=(ua b hb).2.1;have jK:(ts.getD b ⟨0,0,[]⟩).at_=ts[b].at_:=by rw[List.getD_eq_getElem?_getD,List.getElem?_eq_getElem hb];rfl
    have iR:Hid (R=(none,ts[b].at_,6)):=hid (by rw[HR.out,if_pos hb,jK]);have gC:b<n:=by rw[HN.out];exact hb
    have z1:decide (b<n)=true:=decide_eq_true gC;generalize ts[b].at_=ta at *;clear al hr bc hk kE ua jK HR ll hb dV;go_wp2_with fail;go_region;go_wp2_with fail;go_ret3;rw[iR.out];exact⟨_,rfl,ay.out.trans (Ext.refl w3).drew,RNd.nil _⟩
   ·have gC:¬b<n:=by rw[HN.out];exact hb
    have z1:decide (b<n)=false:=decide_eq_false gC;have a9:=bc.row;have ei:=bc.few;have X9:=bc.le;rw[List.nil_append,List.length_nil]at a9 ei;have V3:=hid a9.read;cases hbg:x.big
    ·have hJ:=hw.good hbg;have UW:=Hd x hJ;have V9:=hid (JN w3 bC (Ah 0 x) a9.read (by omega) (Ji x hw 0));have iR:Hid (R=if FM (Ah 0 x)=true then (some x,s.length,0) else (none,0,7)):=hid (by
      rw[HR.out,if_neg hb,UW,hbg];simp)
     rw[hbg]at k4;obtain⟨A2,c2,m2,rfl,ol⟩:=a9.shape3;generalize FM (Ah 0 x)=vb at *;clear al hr bc hk kE pk HR ll hb dV a9 ei UW ol hbg;cases vb
     ·go_wp2_with fail;refine V9.out.mono ?_
      rintro e w4 ⟨rfl,bD⟩;have bu:=hid (ay.out.trans bD);clear bD;go_wp2_with fail;go_ret3;rw[iR.out];exact⟨_,rfl,bu.out,RNd.nil _⟩
     ·go_wp2_with fail;refine V9.out.mono ?_
      rintro e w4 ⟨rfl,bD⟩;have bu:=hid (ay.out.trans bD);have zd:=hid (V3.out.ext bD);have pe:=(bD.cell (b:=g) (o:=3) t4).trans k3;clear bD;go_wp2_with fail;go_ret3;rw[iR.out];exact⟨_,rfl,bu.out,zd.out⟩
    ·have iR:Hid (R=(none,0,7)):=hid (by
      rw[HR.out,if_neg hb,hbg];simp)
     rw[hbg]at k4;clear al hr bc hk kE pk HR ll hb dV a9 ei hbg V3;go_wp2_with fail;go_ret3;rw[iR.out];exact⟨_,rfl,ay.out,RNd.nil _⟩
 ·have Xf:((se:Int) != 0)=true:=by rw[bne_iff_ne];omega
  have mS:Hid (R=(none,sk,se)):=hid (by rw[sD.out,if_pos he0]);clear sD eO;obtain⟨sz,cB⟩:∃sz:Int,sz=(se:Int):=⟨_,rfl⟩;rw[<-cB]at Xf oG;have mQ:=hid cB;clear cB he0;go_enter Tryz.func15,Tryz.ntmps15;go_wp2_with fail;refine oG.out.mono ?_
  rintro e w1 ⟨v1,rfl,ae,aj⟩;obtain⟨A1,c1,rfl⟩:=Ap ae;have ar:=hid aj;clear ae aj;go_wp2_with fail;go_ret3;rw[mS.out];exact⟨_,by rw[mQ.out];rfl,ar.out,RNd.nil _⟩
theorem Do{t:Tx}(h:AX t=0)(h2:t.length<=400):(Ex.leaf 1 t).Good:= .inl ⟨rfl,h,h2⟩
theorem Ox:(Ex.leaf 2 [120]).Good:= .inr (.inl ⟨rfl,by decide⟩)
theorem S4:Qc.Good:=⟨⟨by decide,by decide⟩,⟨.inr ⟨by decide,by decide⟩,fun _=>rfl,by decide,by decide,⟨⟨by decide,by decide⟩,Do (by kernel_rfl) (by decide),Do (by kernel_rfl) (by decide)⟩⟩,⟨⟨by decide,by decide⟩,Do (by kernel_rfl) (by decide),Do (by kernel_rfl) (by decide)⟩⟩
theorem S3:RO.Good:=⟨⟨by decide,by decide⟩,Do (by kernel_rfl) (by decide),⟨⟨by decide,by decide⟩,Ox,Ox⟩⟩
theorem S2:RM.Good:=⟨⟨by decide,by decide⟩,Do (by kernel_rfl) (by decide),⟨.inr ⟨by decide,by decide⟩,fun _=>rfl,by decide,by decide,Do (by kernel_rfl) (by decide)⟩⟩
theorem S1:Qb.Good:=⟨.inr ⟨by decide,by decide⟩,fun h=>absurd rfl h,by decide,by decide,Do (by kernel_rfl) (by decide)⟩
theorem Gf(w:World)(t:List UInt8)(e:Ex)(n:Nat)(hp:Ea t=(some e,n,0))(hg:e.Good)(cB:e.size<=200)(gQ:e.depth<=40)(hm:BW w):
  Calls Tryz.prog 57 #[str t] w (DB (exX e) w):=by
 have HM:=hid hm;have HP:=hid (fun W h=>M8 W t h);unfold NY at HP;rw[hp]at HP;have dM:=hid (fun W v h hm=>N2 W v e h hg cB gQ hm);unfold DB at dM;unfold DB;generalize exX e=X at *;have am:=hid (Blk.new w 26 #[.bool false,.slice none 0 0,.slice none 0 0]);have cX:=hid ((Ext.refl w).alloc (.cells #[.bool false,.slice none 0 0,.slice none 0 0] 26));obtain⟨w1,a5⟩:∃w1,w1=w.alloc (.cells #[.bool false,.slice none 0 0,.slice none 0 0] 26):=⟨_,rfl⟩;rw[<-a5]at am cX;clear hm hg cB gQ hp;go_enter Tryz.func57,Tryz.ntmps57;go_upto_region 1 with fail;rw[<-a5];clear a5;go_wp2_with fail;refine(HP.out w1 (HM.out.ext cX.out)).mono ?_
 rintro r w2 ⟨v2,rfl,hx,hr⟩;have HX:=hid (cX.out.trans hx);have HB:=hid (am.out.ext hx);have HR:=hid hr;clear hx hr;go_wp2_with fail;refine(dM.out w2 v2 HR.out (HM.out.ext HX.out)).mono ?_
 rintro r w5 ⟨v5,rfl,eB,hx⟩;have cW:=hid (HX.out.trans hx);have gM:=hid (HB.out.ext hx);have R5:=hid eB;obtain⟨f5,g5,G5,j5,y5,Y5,z5,rfl⟩:=eB.shape;clear eB hx;have q0:=gM.out.three;go_wp2_with fail;obtain⟨ak,ae,hr2⟩:=Ak gM.out (.bool f5) (.slice G5 g5 j5) (.slice Y5 y5 z5);refine bodyPost_ret (v:= .tuple #[.agg #[.bool f5,.slice G5 g5 j5,.slice Y5 y5 z5],.int .i64 (X.st:Int)]) (by simp[results,Tryz.results57,go_sem,ak,ae,hr2]) rfl ?_
 exact⟨_,rfl,R5.out.ku (KU.three gM.out _ _ _),cW.out.three (Nat.le_refl _) _ _ _⟩
def N1(ns:List Nd)(w:World)(e:Ending)(w':World):Prop:=∃g b nv,e= .returned (.pointer (some ⟨g,0,none⟩))/\GrP w.heap.size g b w' ns nv/\Ext w w'
theorem ND(B gr:Nat)(w:World)(ns:List Nd)(rv:Value)(h:GrR B gr w ns rv)(hm:BW w):Calls Tryz.prog 26 #[.pointer (some ⟨gr,0,none⟩)] w (N1 ns w):=by
 have fu:=hid (P5 _ w _ ns h.row h.ok h.few hm);obtain⟨A,c,rfl⟩:=h.row.shape;have k0:=h.blk.oneG;unfold Jv at fu;unfold N1;clear h hm;go_enter Tryz.func26,Tryz.ntmps26;go_wp2_with fail;refine fu.out.mono ?_
 rintro e w2 ⟨g,b,nv,rfl,hg,hx⟩;have HG:=hid hg;have HX:=hid hx;clear hg hx fu k0;go_wp2_with fail;go_ret;exact⟨g,b,nv,rfl,HG.out,HX.out⟩
theorem Mt(w:World)(hm:BW w):Calls Tryz.prog 12 #[] w fun e w'=>e= .returned (.bool true)/\Ext w w':=by
 have HM:=hid hm;have HA:Hid (∀W,BW W->Calls Tryz.prog 57 #[.string ⟨#[115,113,114,116,40,57,47,52,41,32,45,32,51,47,50]⟩] W fun e w'=>∃v',e= .returned (.tuple #[v',.int .i64 1])/\Aj 0 w' v' 0 1/\Ext W w'):=hid (fun W h=>by
  have h':=Gf W T3 Qc 15 TK S4 (by decide) (by decide) h;rw[OA]at h';exact h')
 have HB:Hid (∀W,BW W->Calls Tryz.prog 57 #[.string ⟨#[49,32,47,32,40,120,32,45,32,120,41]⟩] W fun e w'=>∃v',e= .returned (.tuple #[v',.int .i64 0])/\Aj 0 w' v' 0 0/\Ext W w'):=hid (fun W h=>by
  have h':=Gf W T2 RO 11 TJ S3 (by decide) (by decide) h;rw[Tb]at h';exact h')
 have HC:Hid (∀W,BW W->Calls Tryz.prog 57 #[.string ⟨#[48,32,42,32,108,110,40,48,41]⟩] W fun e w'=>∃v',e= .returned (.tuple #[v',.int .i64 2])/\Aj 0 w' v' 0 0/\Ext W w'):=hid (fun W h=>by
  have h':=Gf W T1 RM 9 TI S2 (by decide) (by decide) h;rw[Ta]at h';exact h')
 have HD:Hid (∀W,BW W->Calls Tryz.prog 57 #[.string ⟨#[48,94,48]⟩] W fun e w'=>∃v',e= .returned (.tuple #[v',.int .i64 1])/\Aj 0 w' v' 1 1/\Ext W w'):=hid (fun W h=>by
  have h':=Gf W T0 Qb 3 TH S1 (by decide) (by decide) h;rw[Oz]at h';exact h')
 have hs:=(NP Qc).size;rw[OA]at hs;have ht:=(NP Qb).size;rw[Oz]at ht;have eT:=hid (fun W v h=>M0 W v 0 1 h (by have:=hs.1;simp only at this;omega) (by have:=hs.2;simp only at this;omega));rw[show sgZ 0=0 from rfl]at eT;have sC:=hid (fun W v u a b=>Hk (p:=1) (q:=1) (N:=32) ht.1 ht.2 (by decide) W v u a b);have dM:=hid (fun W=>QV W 1 (by decide) (by decide));clear hm;go_enter Tryz.func12,Tryz.ntmps12;go_wp2_with fail;refine(HA.out _ HM.out).mono ?_
 rintro e v1 ⟨u1,rfl,bg,aj⟩;obtain⟨f1,g1,G1,j1,y1,Y1,z1,rfl⟩:=bg.shape;have R1:=hid bg;have VX:=hid aj;clear bg aj;go_upto_region 2 with fail;have aq:=Blk.new v1 26 #[.bool f1,.slice G1 g1 j1,.slice Y1 y1 z1];have aj:=(Ext.refl v1).alloc (.cells #[.bool f1,.slice G1 g1 j1,.slice Y1 y1 z1] 26);generalize v1.alloc (.cells #[.bool f1,.slice G1 g1 j1,.slice Y1 y1 z1] 26)=w1 at *;generalize v1.heap.size=b1 at *;have ag:=hid aq;have YT:=hid aj;have ar:=hid (VX.out.trans aj);clear aq aj VX;have R1:=hid (R1.out.ext YT.out);go_wp2_with fail;refine(HB.out _ (HM.out.ext ar.out)).mono ?_
 rintro e v2 ⟨u2,rfl,ba,ah⟩;obtain⟨f2,g2,G2,j2,y2,Y2,z2,rfl⟩:=ba.shape;have R2:=hid ba;have fF:=hid (ar.out.trans ah);have ag:=hid (ag.out.ext ah);have R1:=hid (R1.out.ext ah);clear ba ah;go_upto_region 3 with fail;have hb2:=Blk.new v2 26 #[.bool f2,.slice G2 g2 j2,.slice Y2 y2 z2];have ah:=(Ext.refl v2).alloc (.cells #[.bool f2,.slice G2 g2 j2,.slice Y2 y2 z2] 26);generalize v2.alloc (.cells #[.bool f2,.slice G2 g2 j2,.slice Y2 y2 z2] 26)=w2 at *;generalize v2.heap.size=b2 at *;have aY:=hid hb2;have yN:=hid ah;have aP:=hid (fF.out.trans ah);clear hb2 ah fF;have R2:=hid (R2.out.ext yN.out);have ag:=hid (ag.out.ext yN.out);have R1:=hid (R1.out.ext yN.out);go_wp2_with fail;refine(HC.out _ (HM.out.ext aP.out)).mono ?_
 rintro e v3 ⟨u3,rfl,dn,ab⟩;obtain⟨f3,g3,G3,j3,y3,Y3,z3,rfl⟩:=dn.shape;have R3:=hid dn;have je:=hid (aP.out.trans ab);have ag:=hid (ag.out.ext ab);have R1:=hid (R1.out.ext ab);clear dn ab;go_upto_region 4 with fail;have d7:=Blk.new v3 26 #[.bool f3,.slice G3 g3 j3,.slice Y3 y3 z3];have ab:=(Ext.refl v3).alloc (.cells #[.bool f3,.slice G3 g3 j3,.slice Y3 y3 z3] 26);generalize v3.alloc (.cells #[.bool f3,.slice G3 g3 j3,.slice Y3 y3 z3] 26)=w3 at *;generalize v3.heap.size=b3 at *;have aZ:=hid d7;have yM:=hid ab;have ay:=hid (je.out.trans ab);clear d7 ab je;have R3:=hid (R3.out.ext yM.out);have ag:=hid (ag.out.ext yM.out);have R1:=hid (R1.out.ext yM.out);go_wp2_with fail;refine(HD.out _ (HM.out.ext ay.out)).mono ?_
 rintro e v4 ⟨u4,rfl,i8,bD⟩;obtain⟨f4,g4,G4,j4,y4,Y4,z4,rfl⟩:=i8.shape;have R4:=hid i8;have VW:=hid (ay.out.trans bD);have ag:=hid (ag.out.ext bD);have R1:=hid (R1.out.ext bD);clear i8 bD;go_upto_region 5 with fail;have mD:=Blk.new v4 26 #[.bool f4,.slice G4 g4 j4,.slice Y4 y4 z4];have bD:=(Ext.refl v4).alloc (.cells #[.bool f4,.slice G4 g4 j4,.slice Y4 y4 z4] 26);generalize v4.alloc (.cells #[.bool f4,.slice G4 g4 j4,.slice Y4 y4 z4] 26)=w4 at *;generalize v4.heap.size=b4 at *;have fP:=hid mD;have yL:=hid bD;have bu:=hid (VW.out.trans bD);clear mD bD VW;have R4:=hid (R4.out.ext yL.out);have ag:=hid (ag.out.ext yL.out);have R1:=hid (R1.out.ext yL.out);have zS:=hid (fun W (hx:Ext w4 W)=>(ag.out.ext hx).three);have oQ:=hid (fun W (hx:Ext w4 W)=>(fP.out.ext hx).three);have HZ:=hid (Ext.refl w4);refine wp_region_held_drew (S:=fun w'=>Ext w4 w') (by kernel_rfl) (by exact(Ext.refl w4).drew) (fun hHeld=> ?_);refine' tk 0 25 rfl (by kernel_rfl) (fun _ _ _ h=>h) (by rfl) hHeld ?_ ?_
 rotate_left
 ·(intro _ _;go_simp;(try with_reducible rfl))
 try simp only[pu]
 refine' tk 1 26 rfl (by kernel_rfl) (fun _ _ _ h=>h) (by rfl) hHeld ?_ ?_
 rotate_left
 ·(intro _ _;go_simp;(try with_reducible rfl))
 try simp only[pu]
 refine' tk 2 27 rfl (by kernel_rfl) (fun _ _ _ h=>h) (by rfl) hHeld ?_ ?_
 rotate_left
 ·(intro _ _;go_simp;(try with_reducible rfl))
 try simp only[pu]
 refine' tk 3 28 rfl (by kernel_rfl) (fun _ _ _ h=>h) (by rfl) hHeld ?_ ?_
 rotate_left
 ·(intro w' ur;(try dsimp only at ur);obtain⟨c0,c1,c2,_⟩:=zS.out _ ur;go_simp;(try with_reducible rfl))
 try simp only[pu]
 refine wpAnyH_ready (rs:=[4]) (by kernel_rfl) (by simp) ?_
 refine AllReadyH.cons (i:=4) (o:=⟨some 29,_,_,_,_,_⟩) rfl (fun K hK=> ?_) AllReadyH.nil;go_simp;go_at_call 58;refine(eT.out _ _ (R1.out.ext hHeld).arr).mono ?_
 rintro e w5 ⟨rfl,hx5⟩;have wZ:=Ext.trans hHeld hx5;refine hK.out _ _ ?_ (fun hHeld=> ?_)
 ·exact wZ
 clear hK K;try simp only[pu]
 refine' tk 5 30 rfl (by kernel_rfl) (fun _ _ _ h=>h) (by rfl) hHeld ?_ ?_
 rotate_left
 ·(intro _ _;go_simp;(try with_reducible rfl))
 try simp only[pu]
 refine' tk 6 31 rfl (by kernel_rfl) (fun _ _ _ h=>h) (by rfl) hHeld ?_ ?_
 rotate_left
 ·(intro _ _;go_simp;(try with_reducible rfl))
 try simp only[pu]
 refine' tk 7 32 rfl (by kernel_rfl) (fun _ _ _ h=>h) (by rfl) hHeld ?_ ?_
 rotate_left
 ·(intro _ _;go_simp;(try with_reducible rfl))
 try simp only[pu]
 refine' tk 8 33 rfl (by kernel_rfl) (fun _ _ _ h=>h) (by rfl) hHeld ?_ ?_
 rotate_left
 ·(intro _ _;go_simp;(try with_reducible rfl))
 try simp only[pu]
 refine' tk 9 34 rfl (by kernel_rfl) (fun _ _ _ h=>h) (by rfl) hHeld ?_ ?_
 rotate_left
 ·(intro _ _;go_simp;(try with_reducible rfl))
 try simp only[pu]
 refine' tk 10 35 rfl (by kernel_rfl) (fun _ _ _ h=>h) (by rfl) hHeld ?_ ?_
 rotate_left
 ·(intro _ _;go_simp;(try with_reducible rfl))
 try simp only[pu]
 refine' tk 11 36 rfl (by kernel_rfl) (fun _ _ _ h=>h) (by rfl) hHeld ?_ ?_
 rotate_left
 ·(intro _ _;go_simp;(try with_reducible rfl))
 try simp only[pu]
 refine' tk 12 37 rfl (by kernel_rfl) (fun _ _ _ h=>h) (by rfl) hHeld ?_ ?_
 rotate_left
 ·(intro _ _;go_simp;(try with_reducible rfl))
 try simp only[pu]
 refine' tk 13 38 rfl (by kernel_rfl) (fun _ _ _ h=>h) (by rfl) hHeld ?_ ?_
 rotate_left
 ·(intro _ _;go_simp;(try with_reducible rfl))
 try simp only[pu]
 refine' tk 14 39 rfl (by kernel_rfl) (fun _ _ _ h=>h) (by rfl) hHeld ?_ ?_
 rotate_left
 ·(intro _ _;go_simp;(try with_reducible rfl))
 try simp only[pu]
 refine' tk 15 40 rfl (by kernel_rfl) (fun _ _ _ h=>h) (by rfl) hHeld ?_ ?_
 rotate_left
 ·(intro _ _;go_simp;(try with_reducible rfl))
 try simp only[pu]
 refine' tk 16 41 rfl (by kernel_rfl) (fun _ _ _ h=>h) (by rfl) hHeld ?_ ?_
 rotate_left
 ·(intro _ _;go_simp;(try with_reducible rfl))
 try simp only[pu]
 refine' tk 17 42 rfl (by kernel_rfl) (fun _ _ _ h=>h) (by rfl) hHeld ?_ ?_
 rotate_left
 ·(intro _ _;go_simp;(try with_reducible rfl))
 try simp only[pu]
 refine' tk 18 43 rfl (by kernel_rfl) (fun _ _ _ h=>h) (by rfl) hHeld ?_ ?_
 rotate_left
 ·(intro _ _;go_simp;(try with_reducible rfl))
 try simp only[pu]
 refine' tk 19 44 rfl (by kernel_rfl) (fun _ _ _ h=>h) (by rfl) hHeld ?_ ?_
 rotate_left
 ·(intro _ _;go_simp;(try with_reducible rfl))
 try simp only[pu]
 refine' tk 20 45 rfl (by kernel_rfl) (fun _ _ _ h=>h) (by rfl) hHeld ?_ ?_
 rotate_left
 ·(intro w' ur;(try dsimp only at ur);obtain⟨c0,c1,c2,_⟩:=oQ.out _ ur;go_simp;(try with_reducible rfl))
 try simp only[pu]
 refine wpAnyH_ready (rs:=[21]) (by kernel_rfl) (by simp) ?_
 refine AllReadyH.cons (i:=21) (o:=⟨some 46,_,_,_,_,_⟩) rfl (fun K hK=> ?_) AllReadyH.nil;go_simp;go_at_call 59;refine(dM.out _).mono ?_
 rintro e w6 ⟨u6,rfl,la,cF⟩;obtain⟨f6,g6,G6,j6,y6,Y6,z6,rfl⟩:=la.shape;have R6:=hid la;have U6:=Ext.trans hHeld cF;clear la cF;refine hK.out _ _ ?_ (fun hHeld=> ?_)
 ·exact U6
 clear hK K;try simp only[pu]
 refine wpAnyH_ready (rs:=[22]) (by kernel_rfl) (by simp) ?_
 refine AllReadyH.cons (i:=22) (o:=⟨some 47,_,_,_,_,_⟩) rfl (fun K hK=> ?_) AllReadyH.nil;go_simp;go_at_call 18;refine(sC.out _ _ _ (R4.out.ext hHeld).arr R6.out.arr).mono ?_
 rintro e w7 ⟨rfl,ch⟩;have sc:=Ext.trans hHeld ch;refine hK.out _ _ ?_ (fun hHeld=> ?_)
 ·exact sc
 clear hK K;try simp only[pu]
 refine' tk 23 48 rfl (by kernel_rfl) (fun _ _ _ h=>h) (by rfl) hHeld ?_ ?_
 rotate_left
 ·(intro _ _;go_simp;(try with_reducible rfl))
 try simp only[pu]
 refine' tk 24 0 rfl (by kernel_rfl) (fun _ _ _ h=>h) (by rfl) hHeld ?_ ?_
 rotate_left
 ·(intro _ _;go_simp;(try with_reducible rfl))
 try simp only[pu]
 refine wpAnyH_done (by kernel_rfl) ?_ _
 have HF:=hid (bu.out.trans sc);clear hHeld wZ U6 sc hx5 ch;go_wp2_with fail;go_ret;exact⟨rfl,HF.out⟩
theorem X2.Ok.same{x:X2}(h:x.Ok)(W:World)(v u:Value)(a:Aw W v x.p x.q)(b:Aw W u x.p x.q):Calls Tryz.prog 18 #[v,u] W fun e w'=>e= .returned (.bool true)/\Ext W w':=
 Hk (N:=32) h.size.1 h.size.2 (by decide) W v u a b
theorem Jj(w:World)(v u:Value)(l m:List Int)(h:DV w v l)(h':DV w u m)(hm:BW w):
  Calls Tryz.prog 4 #[v,u] w fun e w'=>e= .returned (.bool true)/\Ext w w':=by
 have wj:=hid (Mt w hm);have HM:=hid hm;have HL:=hid h;have jC:=hid h';have dl:=hid (fun W hx=>Kb W v l (HL.out.ext hx));have oL:=hid (fun W hx=>Kb W u m (jC.out.ext hx));obtain⟨A0,c0,rfl,xP,xO,xN⟩:=h.open;obtain⟨A1,c1,rfl,XU,XT,XS⟩:=h'.open;clear h h' hm xP xO xN XU XT XS;obtain⟨bl,eS⟩:∃bl,decide (l.length<=120)=bl:=⟨_,rfl⟩;obtain⟨bm,nK⟩:∃bm,decide (m.length<=120)=bm:=⟨_,rfl⟩;rw[eS]at dl;rw[nK]at oL;rcases bl with _|_
 ·clear HL jC eS nK;go_enter Tryz.func4,Tryz.ntmps4;go_wp2_with fail;refine wj.out.mono ?_
  rintro e w1 ⟨rfl,aj⟩;have ar:=hid aj;clear aj;go_wp2_with fail;refine(dl.out _ ar.out).mono ?_
  rintro e w2 ⟨rfl,rfl⟩;go_wp2_with fail;go_ret;exact⟨rfl,ar.out⟩
 rcases bm with _|_
 ·clear HL jC eS nK;go_enter Tryz.func4,Tryz.ntmps4;go_wp2_with fail;refine wj.out.mono ?_
  rintro e w1 ⟨rfl,aj⟩;have ar:=hid aj;clear aj;go_wp2_with fail;refine(dl.out _ ar.out).mono ?_
  rintro e w2 ⟨rfl,rfl⟩;go_wp2_with fail;refine(oL.out _ ar.out).mono ?_
  rintro e w2 ⟨rfl,rfl⟩;go_wp2_with fail;go_ret;exact⟨rfl,ar.out⟩
 have qt:l.length<=120:=of_decide_eq_true eS;have XG:m.length<=120:=of_decide_eq_true nK;clear eS nK;go_enter Tryz.func4,Tryz.ntmps4;go_wp2_with fail;refine wj.out.mono ?_
 rintro e w1 ⟨rfl,aj⟩;have ar:=hid aj;clear aj;go_wp2_with fail;refine(dl.out _ ar.out).mono ?_
 rintro e w2 ⟨rfl,rfl⟩;go_wp2_with fail;refine(oL.out _ ar.out).mono ?_
 rintro e w2 ⟨rfl,rfl⟩;go_wp2_with fail;refine(Og _ _ m (jC.out.ext ar.out) (by omega)).mono ?_
 rintro e w2 ⟨rfl,ht,hx,hs⟩;rw[<-hs]at ht;have aP:=hid (ar.out.trans hx);have nG:w.heap.size<=w1.heap.size:=ar.out.size;have t4:w.heap.size<=w2.heap.size:=aP.out.size;have gU:=hid (Kj 4 w1.heap.size w2 _ m 0 false ht (by decide) (by decide));generalize hgg:w1.heap.size=g1 at *;clear ht hs hx wj dl oL;go_wp2_with fail;refine gU.out.mono ?_
 rintro e w3 ⟨x,v3,a1,rfl,tZ,cB,gQ,ai,iP,hk⟩;have Xb:x.size<=15:=by have:2 ^ 4<=16:=(by decide);omega
 have X3:x.depth<=4:=gQ;have zc:Hid (RNd w3 v3 (Ah 0 x)):=hid (by rw[List.nil_append]at ai;exact ai.read);have ay:=hid (hk.to_ext aP.out t4 nG);have fM:=hid tZ;clear cB gQ ai iP hk gU nG t4 hgg tZ;go_wp2_with fail;refine(Ny w3 _ l (HL.out.ext ay.out) (by omega)).mono ?_
 rintro e w4 ⟨gr,ns,rv,rfl,au,vA,bD⟩;have ez:=hid au;have bu:=hid (ay.out.trans bD);have HF:=hid (CD.old (nv:=rv) zc.out bD (Nat.le_of_succ_le au.lo) (Nat.le_of_succ_le au.lo) (fun j hj=>Nat.le_of_succ_le (AH au.row j hj)));have dg:=hid (zc.out.ext bD);have nr:=hid (LH (w3.heap.size+1) gr w4 ns rv v3 x au HF.out fM.out (by omega) (by omega) (by omega));unfold MG at nr;have km:=hid (AC.add x fM.out ns au.ok);have eV:=hid (Mz x ns);have iO:=hid (Gy x ns);have V2:Hid (w.heap.size<=w3.heap.size+1):=hid (Nat.le_succ_of_le ay.out.size);obtain⟨AR,cR,rfl⟩:=au.row.shape;clear au bD vA zc;go_wp2_with fail;refine nr.out.mono ?_
 rintro e w5 ⟨rv5,rfl,i5,ox⟩;have jW:=i5.belowR ez.out;have cW:=hid (bu.out.more (Below.mono jW V2.out));have Wg:=hid (HF.out.keep i5);have zJ:=hid ox;have cI:=hid Wg.out.read;have fu:=hid (ND _ gr w5 _ rv5 ox (HM.out.ext cW.out));unfold N1 at fu;clear i5 ox jW nr ez HF Wg;go_wp2_with fail;refine fu.out.mono ?_
 rintro e w6 ⟨g,b,nv,rfl,hg,cF⟩;have cV:=hid (cW.out.trans cF);have zh:=hid (cI.out.ext cF);have gT:=hid (JK _ g b w6 (Ba ns x).2 nv hg (HM.out.ext cV.out) (Ba ns x).1 iO.out);rw[Ln km.out fM.out eV.out]at gT;have dM:=hid (fun W (hx:Ext w6 W)=>N2 W v3 x (zh.out.ext hx) fM.out (by omega) (by omega) (HM.out.ext (cV.out.trans hx)));have jA:=hid (NP x);have sC:=hid (fun W v u a b=>jA.out.same W v u a b);generalize exX x=X at *;unfold DB at gT dM;obtain⟨st,ac⟩:∃st:Int,(X.st:Int)=st:=⟨_,rfl⟩;rw[ac]at gT dM;generalize (Ba ns x).1=id at *;clear ac hg cF fu km eV iO cI zJ;go_wp2_with fail;refine gT.out.mono ?_
 rintro e w7 ⟨v7,rfl,sl,ch⟩;obtain⟨f7,g7,G7,j7,y7,Y7,z7,rfl⟩:=sl.shape;have R7:=hid sl;have cU:=hid ch;clear sl ch gT;go_upto_region 12 with fail;have nL:=Blk.new w7 26 #[.bool f7,.slice G7 g7 j7,.slice Y7 y7 z7];have cp:=(Ext.refl w7).alloc (.cells #[.bool f7,.slice G7 g7 j7,.slice Y7 y7 z7] 26);generalize w7.alloc (.cells #[.bool f7,.slice G7 g7 j7,.slice Y7 y7 z7] 26)=w8 at *;generalize w7.heap.size=xb at *;have R8:=hid (R7.out.ext cp);have df:=hid (cU.out.trans cp);have iW:=hid nL;clear nL cp R7 cU;go_wp2_with fail;refine(dM.out _ df.out).mono ?_
 rintro e w9 ⟨v9,rfl,iH,eG⟩;obtain⟨f9,g9,G9,j9,y9,Y9,z9,rfl⟩:=iH.shape;have R9:=hid iH;have eD:=hid (df.out.trans eG);have R8:=hid (R8.out.ext eG);have iW:=hid (iW.out.ext eG);clear iH eG dM;go_upto_region 13 with fail;have uk:=Blk.new w9 26 #[.bool f9,.slice G9 g9 j9,.slice Y9 y9 z9];have cN:=(Ext.refl w9).alloc (.cells #[.bool f9,.slice G9 g9 j9,.slice Y9 y9 z9] 26);generalize w9.alloc (.cells #[.bool f9,.slice G9 g9 j9,.slice Y9 y9 z9] 26)=w10 at *;generalize w9.heap.size=yb at *;have nO:=hid (R9.out.ext cN);have R8:=hid (R8.out.ext cN);have gF:=hid (eD.out.trans cN);obtain⟨c0,c1,c2,_⟩:=(iW.out.ext cN).three;have d0:=uk.three;clear uk cN R9 eD;go_wp2_with fail;refine(sC.out _ _ _ R8.out.arr nO.out.arr).mono ?_
 rintro e wq ⟨rfl,cT⟩;have fN:=hid ((cV.out.trans gF.out).trans cT);clear cT;go_wp2_with fail;go_ret;exact⟨rfl,fN.out⟩
end Big
end Go.Proofs.YtkoaogkknnelaaaGreatDoor
namespace Go.Proofs.YtkoaogkknnelaaaGreatDoor
open Go.ChangeShapes Go.WideShapes Go.ChangeAt Go.RowKit
section
variable {H:Type} {enc:TypeId × Value->H} {P:Program}
theorem FE(hl:laidOutB P=true){W W':World}(hb:Big.Ext W W'):∀(ts:List TypeId) (vs:List Value) (ds:List (DataW H)) (ps:List MemPlace),
  (∀t∈ts,P.readableRec t=true/\t<P.types.size)->DataW.TrodAll enc P W 0 (fun _=>true) true ts vs ds ps->(∀x∈ps,x.block<W.heap.size)->
  DataW.TrodAll enc P W' 0 (fun b=>decide (b<W.heap.size)) true ts vs ds ps
 |[],vs,ds,ps,_,h,_=>by
  obtain⟨rfl,rfl,rfl⟩:=trodAll_nil h;exact trodAll_mk0
 |t::ts,vs,ds,ps,ht,h,hlt=>by
  obtain⟨v,sH,d,YD,p,q,rfl,rfl,rfl,h1,h2⟩:=trodAll_cons h;exact trodAll_cons_mk (Below.trod hl (ht t (by simp)).1 (ht t (by simp)).2 h1 hb (fun x hx=>hlt x (List.mem_append_left _ hx)))
   (FE hl hb ts sH YD q (fun t' h'=>ht t' (by simp[h'])) h2 (fun x hx=>hlt x (List.mem_append_right _ hx)))
theorem Pw {f:Func} {s:ChangeSpec} {W W':World} {args:Array Value} {ds gs:List (DataW H)} {fd:List MemPlace} {tb:TypeId} (hl:laidOutB P=true)
  (o6:(f.params.toList.all fun t=>P.readableRec t && decide (t<P.types.size))=true) (hv:s.vars=[]) (hr:f.resultTypes= #[tb]) (Xa:P.underlying tb=some .bool)
  (hW:DataW.Whole enc P f.params.toList s.vars false W args.toList ds gs fd) (hfn:s.fn H ds={ results:=[.lit (.bool true)],args:=ds }) (hb:Big.Ext W W'):
  s.post enc P f false true false false W args (.bool true) W':=by
 have hlt:=hW.lt;have yp:=hW;obtain⟨p,q,hA,hV,rfl,gP,jN⟩:=hW;rw[hv]at hV;obtain⟨rfl,rfl⟩:=trodVars_none hV;have mu:s.fn H (ds++[])={ results:=[.lit (.bool true)],args:=ds }:=by rw[List.append_nil];exact hfn
 refine⟨ds,[],p++[],[],p,[],yp,?_,?_,?_,hb.frame _,fun h=>by cases h⟩
 ·rw[mu,hr];exact trodAll_mk1 (shut_bool Xa _)
 ·rw[mu];exact FE hl hb _ _ _ _ (fun t ht=>by
   have:=List.all_eq_true.1 o6 t ht
   simpa using this) hA (fun x hx=>hlt x (by simpa using hx))
 ·rw[mu,hv];rfl
end
theorem Gp {H:Type} {enc:TypeId × Value->H} {a:Assume} {C:Checked} {os:Os} {f:FuncId} {fn:Func} {s:ChangeSpec} {pr:List PathCond} {apart pq kF pv:Bool} {X:World->Array Value->Prop}
  (hX:∀(w w':World) (args:Array Value),w.heap=w'.heap->X w args->X w' args)
  (own:ownKnob C.prog.godebug=none) (started:os.Started) (pT:C.prog.inits.idxOf? f=none) (hfn:C.prog.funcs[f]? =some fn)
  (nV:∃(w:World) (tape:Tape) (i:Input),w.os=os/\(w.forCall tape i).Shaped C.prog/\i.vars=[]/\Input.okWide C.prog (w.forCall tape i) .any w.heap.size f i/\
   ((s.pre enc C.prog fn pr apart (w.forCall tape i).memory i.args/\X (w.forCall tape i).memory i.args)/\sizedMet enc C.prog fn (OpenSpec.ofChange s) apart (w.forCall tape i).memory i.args)/\a.holds C.prog (lone (Frame.enter C.prog f i.args .normal) [] (w.forCall tape i)))
  (mL:∀(W:World) (eL:Nat) (args:Array Value) (ds gs:List (DataW H)) (fd:List MemPlace),
   (∀(j:Nat) t v,fn.params[j]? =some t->args[j]? =some v->Value.okWide C.prog W .any eL t v)->
   DataW.Whole enc C.prog fn.params.toList s.vars apart W args.toList ds gs fd->
   (DataW.weightsEach C.prog (fn.params.toList++s.plain.varTypes C.prog) (ds++gs)).all (·<=reachBytes)=true->X W args->W.ShapedOpen C.prog->
   Calls C.prog f args W fun e W'=>∃v,e= .returned v/\s.post enc C.prog fn apart pq kF pv W args v W'):
  ReturnsInHanded a C os f .any (fun w args=>(s.pre enc C.prog fn pr apart w args/\X w args)/\sizedMet enc C.prog fn (OpenSpec.ofChange s) apart w args) (s.post enc C.prog fn apart pq kF pv):=by
 refine returnsInHanded_of_calls own started pT nV ?_
 intro w tape i _ wY _ ax xk xM;obtain⟨_,_,_,YC,mu,_,_,_,_,bj⟩:=ax;have e:YC=fn:=Option.some.inj (mu.symm.trans hfn);subst e;obtain⟨⟨⟨ds,gs,fd,hw,hc⟩,hx⟩,hz⟩:=xk;have W2:=DataW.Whole.of_heap (w':=w.forCall tape i) (by rfl) hw;refine(mL (w.forCall tape i) w.heap.size i.args ds gs fd bj W2 (hz.weights hw) (hX _ _ _ (by rfl) hx) wY).mono fun e W' ⟨v,he,hp⟩=> ?_
 subst he;exact ChangeSpec.post_blind hp
theorem Rt:laidOutB Tryz.prog=true:=by kernel_rfl
theorem own:ownKnob Tryz.prog.godebug=none:=by kernel_rfl
section
variable {P:Program} {W:World}
end
section
variable {H:Type} {enc:TypeId × Value->H} {W:World} {fuel:Nat} {v:Value} {y:DataW H × List MemPlace}
end
section
variable {H:Type} {enc:TypeId × Value->H} {W:World} {v:Value} {d:DataW H} {p:List MemPlace} {r:Reach} {b0:Nat}
end
end Go.Proofs.YtkoaogkknnelaaaGreatDoor
