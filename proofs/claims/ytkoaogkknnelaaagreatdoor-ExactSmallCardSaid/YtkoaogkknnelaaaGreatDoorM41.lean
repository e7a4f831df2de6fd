import Derived.Test.YtkoaogkknnelaaaGreatDoorM40
import Derived.Test.YtkoaogkknnelaaaGreatDoorM39
import Derived.Test.YtkoaogkknnelaaaGreatDoorRows
import Derived.ProofKit
import Derived.LaidMore
import Derived.OpenShut
import Derived.Stop.Joined
import Derived.Lib.LaidTab
import Derived.Handed
import Derived.HandedShaped
import Derived.Deep.Strs
import Derived.ChangeMaps5
import Derived.Lib.SmallJoins
set_option linter.unusedVariables false
set_option linter.unusedSimpArgs false
set_option maxHeartbeats 16000000
set_option maxRecDepth 100000
namespace Go.Proofs.YtkoaogkknnelaaaGreatDoor
namespace Big
open Lib (hid)
open Go.RowKit
theorem I9(w:World)(s:List UInt8)(hm:Ce w):Calls Tryz.prog 15 #[str s] w (LE w s):=by
 have gP:=hid (Pu w s hm);have HM:=hid hm;have fz:=hid (Nf s);have tU:=Pg s;have ud:Hid (DY s=if (Bj s).2.2≠0 then (none,(Bj s).2.1,(Bj s).2.2)
  else if (Bh (Bj s).1 ((Bj s).1.length+1) 0).2<(Bj s).1.length then (none,((Bj s).1.getD (Bh (Bj s).1 ((Bj s).1.length+1) 0).2 ⟨0,0,[]⟩).at_,6)
  else match (Bh (Bj s).1 ((Bj s).1.length+1) 0).1 with
   |none=>(none,s.length,6)
   |some x=>if x.big=false/\x.size<=200/\x.depth<=40 then (some x,s.length,0) else (none,0,7)):=hid rfl
 unfold IS at gP;unfold LE;generalize DY s=R at *;generalize (Bj s).2.1=sk at *;generalize (Bj s).2.2=se at *;generalize (Bj s).1=ts at *;clear hm;by_cases he0:se=0
 ·subst he0;have pr:(if (0:Nat)≠0 then ((none:Option Ex),sk,(0:Nat)) else if (Bh ts (ts.length+1) 0).2<ts.length then (none,(ts.getD (Bh ts (ts.length+1) 0).2 ⟨0,0,[]⟩).at_,6) else match (Bh ts (ts.length+1) 0).1 with|none=>(none,s.length,6)|some x=>if x.big=false/\x.size<=200/\x.depth<=40 then (some x,s.length,0) else (none,0,7))=(if (Bh ts (ts.length+1) 0).2<ts.length then (none,(ts.getD (Bh ts (ts.length+1) 0).2 ⟨0,0,[]⟩).at_,6) else match (Bh ts (ts.length+1) 0).1 with|none=>(none,s.length,6)|some x=>if x.big=false/\x.size<=200/\x.depth<=40 then (some x,s.length,0) else (none,0,7)):=by rw[if_neg (by simp)]
  have mo:=hid (ud.out.trans pr);clear ud pr;have uu:=PQ fz.out (ts.length+1);have et:=DQ ts (ts.length+1) 0 (Nat.zero_le _);have hz:(((0:Nat):Int))=0:=rfl;rw[hz]at gP;clear hz;obtain⟨n,hn⟩:∃n,n=ts.length:=⟨_,rfl⟩;have HN:=hid hn;rw[<-hn]at gP;clear hn;go_enter Tryz.func15,Tryz.ntmps15;go_wp2_with fail;refine gP.out.mono ?_
  rintro e w1 ⟨v1,rfl,ac,ag⟩;have yy:Ge w1 v1 ts:=Ge.of (by rw[HN.out]at ac;exact ac);obtain⟨A1,c1,rfl⟩:=AN ac;obtain⟨w2,cx⟩:∃w2,w2=w1.alloc (.cells #[.slice A1 n c1,.int .i64 0,.bool false,.slice none 0 0,.bool false] 120):=⟨_,rfl⟩;have de:Ext w1 w2:=by rw[cx];exact(Ext.refl w1).alloc _
  have aI:=hid (ag.trans de);have mu:=hid (HM.out.ext (ag.trans de));have bf:RdR w1.heap.size w2 ts 0 false [] false (.slice A1 n c1) (.slice none 0 0):=⟨by rw[cx];exact Blk.new w1 _ _,AU.nil _ _,(Iy.of yy).below de,Nat.zero_le _,Nat.zero_le _,tU⟩;have Yn:=hid bf;have qG:=hid ((Iy.of yy).below de);have VU:=hid (Q9 w1.heap.size ts (.slice A1 n c1) fz.out (ts.length+1) 0 (by omega) w2 [] false (.slice none 0 0) bf);have xN:Hid (w.heap.size<=w1.heap.size):=hid ag.size;clear ac ag yy de bf;go_upto_region 5 with fail;rw[<-cx];clear cx;generalize w1.heap.size=g at *;go_wp2_with fail;refine VU.out.mono ?_
  intro e w3 aw;obtain⟨r,hr⟩:∃r,Bh ts (ts.length+1) 0=r:=⟨_,rfl⟩;rw[hr]at et;have HR:=hid mo.out;rw[hr]at HR;have hall:∀b:Nat,b<ts.length->Hid (∃A:Addr,True):=fun _ _=>hid ⟨⟨0,0,none⟩,trivial⟩
  clear hall;obtain⟨_|x,b⟩:=r
  ·obtain⟨rfl,bL,kt,kv,bf,hk⟩:=aw.none_ hr;have lH:=hk.below (ns:=[]) (AU.nil _ _) (Nat.le_of_lt Yn.out.blk.lt);have aC:Hid (Ext w w3):=hid (aI.out.more (Below.mono lH xN.out));obtain⟨⟨k0,k1,k2,k3,k4⟩,_,Xu⟩:=bf.blk.five';obtain⟨A9,c9,zB,qr⟩:=qG.out.below lH;injection zB with he1 he2 he3
   subst he1;clear he2 he3;simp only at HR;by_cases hb:b<ts.length
   ·obtain⟨bk,bF,_,_,sc⟩:=qr (by omega);clear qr;subst bF;have q1:=(sc b hb).2.1;have lY:(ts.getD b ⟨0,0,[]⟩).at_=ts[b].at_:=by rw[List.getD_eq_getElem?_getD,List.getElem?_eq_getElem hb];rfl
    have jJ:Hid (R=(none,ts[b].at_,6)):=hid (by rw[HR.out,if_pos hb,lY]);have cP:b<n:=by rw[HN.out];exact hb
    have z1:decide (b<n)=true:=decide_eq_true cP;generalize ts[b].at_=ta at *;clear aw hr bf hk lH sc lY HR mo hb et;go_wp2_with fail;go_region;go_wp2_with fail;go_ret3;rw[jJ.out];exact⟨_,rfl,aC.out.trans (Ext.refl w3).drew,RNd.nil _⟩
   ·have jJ:Hid (R=(none,s.length,6)):=hid (by rw[HR.out,if_neg hb]);have cP:¬b<n:=by rw[HN.out];exact hb
    have z1:decide (b<n)=false:=decide_eq_false cP;clear aw hr bf hk lH qr HR mo hb et;go_wp2_with fail;go_ret3;rw[jJ.out];exact⟨_,rfl,aC.out,RNd.nil _⟩
  ·obtain⟨rfl,bL,bf,hk⟩:=aw.some_ hr;rw[Bool.false_or]at bf;have hw:=uu _ _ _ hr;have lH:=hk.below (ns:=[]) (AU.nil _ _) (Nat.le_of_lt Yn.out.blk.lt);have aC:Hid (Ext w w3):=hid (aI.out.more (Below.mono lH xN.out));obtain⟨⟨k0,k1,k2,k3,k4⟩,_,Xu⟩:=bf.blk.five';obtain⟨A9,c9,zB,qr⟩:=qG.out.below lH;injection zB with he1 he2 he3
   subst he1;clear he2 he3;simp only at HR;by_cases hb:b<ts.length
   ·obtain⟨bk,bF,_,_,sc⟩:=qr (by omega);clear qr;subst bF;have q1:=(sc b hb).2.1;have lY:(ts.getD b ⟨0,0,[]⟩).at_=ts[b].at_:=by rw[List.getD_eq_getElem?_getD,List.getElem?_eq_getElem hb];rfl
    have jJ:Hid (R=(none,ts[b].at_,6)):=hid (by rw[HR.out,if_pos hb,lY]);have cP:b<n:=by rw[HN.out];exact hb
    have z1:decide (b<n)=true:=decide_eq_true cP;generalize ts[b].at_=ta at *;clear aw hr bf hk lH sc lY HR mo hb et;go_wp2_with fail;go_region;go_wp2_with fail;go_ret3;rw[jJ.out];exact⟨_,rfl,aC.out.trans (Ext.refl w3).drew,RNd.nil _⟩
   ·have cP:¬b<n:=by rw[HN.out];exact hb
    have z1:decide (b<n)=false:=decide_eq_false cP;have be:=bf.row;have eX:=bf.few;have hble:=bf.le;rw[List.nil_append,List.length_nil]at be eX;have qI:=hid be.read;cases hbg:x.big
    ·have jo:=hw.good hbg;have Xa:=Hx x jo;have Yt:=hid (Kb w3 bL (Ak 0 x) be.read (by omega) (JI x hw 0));have jJ:Hid (R=if FZ (Ak 0 x)=true then (some x,s.length,0) else (none,0,7)):=hid (by
      rw[HR.out,if_neg hb,Xa,hbg];simp)
     rw[hbg]at k4;obtain⟨A2,c2,m2,rfl,mc⟩:=be.shape3;generalize FZ (Ak 0 x)=vb at *;clear aw hr bf hk lH qr HR mo hb et be eX Xa mc hbg;cases vb
     ·go_wp2_with fail;refine Yt.out.mono ?_
      rintro e w4 ⟨rfl,bc⟩;have bw:=hid (aC.out.trans bc);clear bc;go_wp2_with fail;go_ret3;rw[jJ.out];exact⟨_,rfl,bw.out,RNd.nil _⟩
     ·go_wp2_with fail;refine Yt.out.mono ?_
      rintro e w4 ⟨rfl,bc⟩;have bw:=hid (aC.out.trans bc);have VY:=hid (qI.out.ext bc);have rT:=(bc.cell (b:=g) (o:=3) Xu).trans k3;clear bc;go_wp2_with fail;go_ret3;rw[jJ.out];exact⟨_,rfl,bw.out,VY.out⟩
    ·have jJ:Hid (R=(none,0,7)):=hid (by
      rw[HR.out,if_neg hb,hbg];simp)
     rw[hbg]at k4;clear aw hr bf hk lH qr HR mo hb et be eX hbg qI;go_wp2_with fail;go_ret3;rw[jJ.out];exact⟨_,rfl,aC.out,RNd.nil _⟩
 ·have ZL:((se:Int) != 0)=true:=by rw[bne_iff_ne];omega
  have lf:Hid (R=(none,sk,se)):=hid (by rw[ud.out,if_pos he0]);clear ud fz;obtain⟨sz,bK⟩:∃sz:Int,sz=(se:Int):=⟨_,rfl⟩;rw[<-bK]at ZL gP;have oq:=hid bK;clear bK he0;go_enter Tryz.func15,Tryz.ntmps15;go_wp2_with fail;refine gP.out.mono ?_
  rintro e w1 ⟨v1,rfl,ac,ag⟩;obtain⟨A1,c1,rfl⟩:=AN ac;have ar:=hid ag;clear ac ag;go_wp2_with fail;go_ret3;rw[lf.out];exact⟨_,by rw[oq.out];rfl,ar.out,RNd.nil _⟩
theorem DA{t:Tx}(h:Bm t=0)(h2:t.length<=400):(Ex.leaf 1 t).Good:= .inl ⟨rfl,h,h2⟩
theorem OI:(Ex.leaf 2 [120]).Good:= .inr (.inl ⟨rfl,by decide⟩)
theorem Tv:Qm.Good:=⟨⟨by decide,by decide⟩,⟨.inr ⟨by decide,by decide⟩,fun _=>rfl,by decide,by decide,⟨⟨by decide,by decide⟩,DA (by kernel_rfl) (by decide),DA (by kernel_rfl) (by decide)⟩⟩,⟨⟨by decide,by decide⟩,DA (by kernel_rfl) (by decide),DA (by kernel_rfl) (by decide)⟩⟩
theorem Tu:Sp.Good:=⟨⟨by decide,by decide⟩,DA (by kernel_rfl) (by decide),⟨⟨by decide,by decide⟩,OI,OI⟩⟩
theorem Tt:So.Good:=⟨⟨by decide,by decide⟩,DA (by kernel_rfl) (by decide),⟨.inr ⟨by decide,by decide⟩,fun _=>rfl,by decide,by decide,DA (by kernel_rfl) (by decide)⟩⟩
theorem Ts:Ql.Good:=⟨.inr ⟨by decide,by decide⟩,fun h=>absurd rfl h,by decide,by decide,DA (by kernel_rfl) (by decide)⟩
theorem GB(w:World)(t:List UInt8)(e:Ex)(n:Nat)(hp:DY t=(some e,n,0))(hg:e.Good)(bK:e.size<=200)(iW:e.depth<=40)(hm:Ce w):
  Calls Tryz.prog 57 #[str t] w (Cy (exX e) w):=by
 have HM:=hid hm;have HP:=hid (fun W h=>I9 W t h);unfold LE at HP;rw[hp]at HP;have cY:=hid (fun W v h hm=>Og W v e h hg bK iW hm);unfold Cy at cY;unfold Cy;generalize exX e=X at *;have ak:=hid (Blk.new w 26 #[.bool false,.slice none 0 0,.slice none 0 0]);have cq:=hid ((Ext.refl w).alloc (.cells #[.bool false,.slice none 0 0,.slice none 0 0] 26));obtain⟨w1,aZ⟩:∃w1,w1=w.alloc (.cells #[.bool false,.slice none 0 0,.slice none 0 0] 26):=⟨_,rfl⟩;rw[<-aZ]at ak cq;clear hm hg bK iW hp;go_enter Tryz.func57,Tryz.ntmps57;go_upto_region 1 with fail;rw[<-aZ];clear aZ;go_wp2_with fail;refine(HP.out w1 (HM.out.ext cq.out)).mono ?_
 rintro r w2 ⟨v2,rfl,hx,hr⟩;have HX:=hid (cq.out.trans hx);have HB:=hid (ak.out.ext hx);have HR:=hid hr;clear hx hr;go_wp2_with fail;refine(cY.out w2 v2 HR.out (HM.out.ext HX.out)).mono ?_
 rintro r w5 ⟨v5,rfl,dV,hx⟩;have dr:=hid (HX.out.trans hx);have gI:=hid (HB.out.ext hx);have R5:=hid dV;obtain⟨f5,g5,G5,j5,y5,Y5,z5,rfl⟩:=dV.shape;clear dV hx;have q0:=gI.out.three;go_wp2_with fail;obtain⟨aj,ac,hr2⟩:=Ah gI.out (.bool f5) (.slice G5 g5 j5) (.slice Y5 y5 z5);refine bodyPost_ret (v:= .tuple #[.agg #[.bool f5,.slice G5 g5 j5,.slice Y5 y5 z5],.int .i64 (X.st:Int)]) (by simp[results,Tryz.results57,go_sem,aj,ac,hr2]) rfl ?_
 exact⟨_,rfl,R5.out.ku (KU.three gI.out _ _ _),dr.out.three (Nat.le_refl _) _ _ _⟩
theorem MN(w:World)(hm:Ce w):Calls Tryz.prog 12 #[] w fun e w'=>e= .returned (.bool true)/\Ext w w':=by
 have HM:=hid hm;have HA:Hid (∀W,Ce W->Calls Tryz.prog 57 #[.string ⟨#[115,113,114,116,40,57,47,52,41,32,45,32,51,47,50]⟩] W fun e w'=>∃v',e= .returned (.tuple #[v',.int .i64 1])/\Ag 0 w' v' 0 1/\Ext W w'):=hid (fun W h=>by
  have h':=GB W UO Qm 15 Ul Tv (by decide) (by decide) h;rw[OM]at h';exact h')
 have HB:Hid (∀W,Ce W->Calls Tryz.prog 57 #[.string ⟨#[49,32,47,32,40,120,32,45,32,120,41]⟩] W fun e w'=>∃v',e= .returned (.tuple #[v',.int .i64 0])/\Ag 0 w' v' 0 0/\Ext W w'):=hid (fun W h=>by
  have h':=GB W UN Sp 11 Uk Tu (by decide) (by decide) h;rw[TD]at h';exact h')
 have HC:Hid (∀W,Ce W->Calls Tryz.prog 57 #[.string ⟨#[48,32,42,32,108,110,40,48,41]⟩] W fun e w'=>∃v',e= .returned (.tuple #[v',.int .i64 2])/\Ag 0 w' v' 0 0/\Ext W w'):=hid (fun W h=>by
  have h':=GB W UM So 9 Uj Tt (by decide) (by decide) h;rw[TC]at h';exact h')
 have HD:Hid (∀W,Ce W->Calls Tryz.prog 57 #[.string ⟨#[48,94,48]⟩] W fun e w'=>∃v',e= .returned (.tuple #[v',.int .i64 1])/\Ag 0 w' v' 1 1/\Ext W w'):=hid (fun W h=>by
  have h':=GB W UL Ql 3 Ui Ts (by decide) (by decide) h;rw[OL]at h';exact h')
 have hs:=(N4 Qm).size;rw[OM]at hs;have ht:=(N4 Ql).size;rw[OL]at ht;have eY:=hid (fun W v h=>CY W v 0 1 h (by have:=hs.1;simp only at this;omega) (by have:=hs.2;simp only at this;omega));rw[show sgZ 0=0 from rfl]at eY;have sY:=hid (fun W v u a b=>H7 (p:=1) (q:=1) (N:=32) ht.1 ht.2 (by decide) W v u a b);have cY:=hid (fun W=>DU W 1 (by decide) (by decide));clear hm;go_enter Tryz.func12,Tryz.ntmps12;go_wp2_with fail;refine(HA.out _ HM.out).mono ?_
 rintro e v1 ⟨u1,rfl,aR,ag⟩;obtain⟨f1,g1,G1,j1,y1,Y1,z1,rfl⟩:=aR.shape;have R1:=hid aR;have Yi:=hid ag;clear aR ag;go_upto_region 2 with fail;have al:=Blk.new v1 26 #[.bool f1,.slice G1 g1 j1,.slice Y1 y1 z1];have ag:=(Ext.refl v1).alloc (.cells #[.bool f1,.slice G1 g1 j1,.slice Y1 y1 z1] 26);generalize v1.alloc (.cells #[.bool f1,.slice G1 g1 j1,.slice Y1 y1 z1] 26)=w1 at *;generalize v1.heap.size=b1 at *;have ai:=hid al;have HY1:=hid ag;have ar:=hid (Yi.out.trans ag);clear al ag Yi;have R1:=hid (R1.out.ext HY1.out);go_wp2_with fail;refine(HB.out _ (HM.out.ext ar.out)).mono ?_
 rintro e v2 ⟨u2,rfl,ax,ae⟩;obtain⟨f2,g2,G2,j2,y2,Y2,z2,rfl⟩:=ax.shape;have R2:=hid ax;have qD:=hid (ar.out.trans ae);have ai:=hid (ai.out.ext ae);have R1:=hid (R1.out.ext ae);clear ax ae;go_upto_region 3 with fail;have hb2:=Blk.new v2 26 #[.bool f2,.slice G2 g2 j2,.slice Y2 y2 z2];have ae:=(Ext.refl v2).alloc (.cells #[.bool f2,.slice G2 g2 j2,.slice Y2 y2 z2] 26);generalize v2.alloc (.cells #[.bool f2,.slice G2 g2 j2,.slice Y2 y2 z2] 26)=w2 at *;generalize v2.heap.size=b2 at *;have a6:=hid hb2;have VG:=hid ae;have aI:=hid (qD.out.trans ae);clear hb2 ae qD;have R2:=hid (R2.out.ext VG.out);have ai:=hid (ai.out.ext VG.out);have R1:=hid (R1.out.ext VG.out);go_wp2_with fail;refine(HC.out _ (HM.out.ext aI.out)).mono ?_
 rintro e v3 ⟨u3,rfl,cB,ab⟩;obtain⟨f3,g3,G3,j3,y3,Y3,z3,rfl⟩:=cB.shape;have R3:=hid cB;have Yh:=hid (aI.out.trans ab);have ai:=hid (ai.out.ext ab);have R1:=hid (R1.out.ext ab);clear cB ab;go_upto_region 4 with fail;have dW:=Blk.new v3 26 #[.bool f3,.slice G3 g3 j3,.slice Y3 y3 z3];have ab:=(Ext.refl v3).alloc (.cells #[.bool f3,.slice G3 g3 j3,.slice Y3 y3 z3] 26);generalize v3.alloc (.cells #[.bool f3,.slice G3 g3 j3,.slice Y3 y3 z3] 26)=w3 at *;generalize v3.heap.size=b3 at *;have a8:=hid dW;have VF:=hid ab;have aC:=hid (Yh.out.trans ab);clear dW ab Yh;have R3:=hid (R3.out.ext VF.out);have ai:=hid (ai.out.ext VF.out);have R1:=hid (R1.out.ext VF.out);go_wp2_with fail;refine(HD.out _ (HM.out.ext aC.out)).mono ?_
 rintro e v4 ⟨u4,rfl,fi,bc⟩;obtain⟨f4,g4,G4,j4,y4,Y4,z4,rfl⟩:=fi.shape;have R4:=hid fi;have Yg:=hid (aC.out.trans bc);have ai:=hid (ai.out.ext bc);have R1:=hid (R1.out.ext bc);clear fi bc;go_upto_region 5 with fail;have qu:=Blk.new v4 26 #[.bool f4,.slice G4 g4 j4,.slice Y4 y4 z4];have bc:=(Ext.refl v4).alloc (.cells #[.bool f4,.slice G4 g4 j4,.slice Y4 y4 z4] 26);generalize v4.alloc (.cells #[.bool f4,.slice G4 g4 j4,.slice Y4 y4 z4] 26)=w4 at *;generalize v4.heap.size=b4 at *;have gJ:=hid qu;have VE:=hid bc;have bw:=hid (Yg.out.trans bc);clear qu bc Yg;have R4:=hid (R4.out.ext VE.out);have ai:=hid (ai.out.ext VE.out);have R1:=hid (R1.out.ext VE.out);have WE:=hid (fun W (hx:Ext w4 W)=>(ai.out.ext hx).three);have mE:=hid (fun W (hx:Ext w4 W)=>(gJ.out.ext hx).three);have HZ:=hid (Ext.refl w4);refine wp_region_held_drew (S:=fun w'=>Ext w4 w') (by kernel_rfl) (by exact(Ext.refl w4).drew) (fun hHeld=> ?_);refine' tk 0 25 rfl (by kernel_rfl) (fun _ _ _ h=>h) (by rfl) hHeld ?_ ?_
 rotate_left
 ·(intro _ _;go_simp;(try with_reducible rfl))
 try simp only[pu]
 refine' tk 1 26 rfl (by kernel_rfl) (fun _ _ _ h=>h) (by rfl) hHeld ?_ ?_
 rotate_left
 ·(intro _ _;go_simp;(try with_reducible rfl))
 try simp only[pu]
 refine' tk 2 27 rfl (by kernel_rfl) (fun _ _ _ h=>h) (by rfl) hHeld ?_ ?_
 rotate_left
 ·(intro _ _;go_simp;(try with_reducible rfl))
 try simp only[pu]
 refine' tk 3 28 rfl (by kernel_rfl) (fun _ _ _ h=>h) (by rfl) hHeld ?_ ?_
 rotate_left
 ·(intro w' a9;(try dsimp only at a9);obtain⟨c0,c1,c2,_⟩:=WE.out _ a9;go_simp;(try with_reducible rfl))
 try simp only[pu]
 refine wpAnyH_ready (rs:=[4]) (by kernel_rfl) (by simp) ?_
 refine AllReadyH.cons (i:=4) (o:=⟨some 29,_,_,_,_,_⟩) rfl (fun K hK=> ?_) AllReadyH.nil;go_simp;go_at_call 58;refine(eY.out _ _ (R1.out.ext hHeld).arr).mono ?_
 rintro e w5 ⟨rfl,hx5⟩;have Xg:=Ext.trans hHeld hx5;refine hK.out _ _ ?_ (fun hHeld=> ?_)
 ·exact Xg
 clear hK K;try simp only[pu]
 refine' tk 5 30 rfl (by kernel_rfl) (fun _ _ _ h=>h) (by rfl) hHeld ?_ ?_
 rotate_left
 ·(intro _ _;go_simp;(try with_reducible rfl))
 try simp only[pu]
 refine' tk 6 31 rfl (by kernel_rfl) (fun _ _ _ h=>h) (by rfl) hHeld ?_ ?_
 rotate_left
 ·(intro _ _;go_simp;(try with_reducible rfl))
 try simp only[pu]
 refine' tk 7 32 rfl (by kernel_rfl) (fun _ _ _ h=>h) (by rfl) hHeld ?_ ?_
 rotate_left
 ·(intro _ _;go_simp;(try with_reducible rfl))
 try simp only[pu]
 refine' tk 8 33 rfl (by kernel_rfl) (fun _ _ _ h=>h) (by rfl) hHeld ?_ ?_
 rotate_left
 ·(intro _ _;go_simp;(try with_reducible rfl))
 try simp only[pu]
 refine' tk 9 34 rfl (by kernel_rfl) (fun _ _ _ h=>h) (by rfl) hHeld ?_ ?_
 rotate_left
 ·(intro _ _;go_simp;(try with_reducible rfl))
 try simp only[pu]
 refine' tk 10 35 rfl (by kernel_rfl) (fun _ _ _ h=>h) (by rfl) hHeld ?_ ?_
 rotate_left
 ·(intro _ _;go_simp;(try with_reducible rfl))
 try simp only[pu]
 refine' tk 11 36 rfl (by kernel_rfl) (fun _ _ _ h=>h) (by rfl) hHeld ?_ ?_
 rotate_left
 ·(intro _ _;go_simp;(try with_reducible rfl))
 try simp only[pu]
 refine' tk 12 37 rfl (by kernel_rfl) (fun _ _ _ h=>h) (by rfl) hHeld ?_ ?_
 rotate_left
 ·(intro _ _;go_simp;(try with_reducible rfl))
 try simp only[pu]
 refine' tk 13 38 rfl (by kernel_rfl) (fun _ _ _ h=>h) (by rfl) hHeld ?_ ?_
 rotate_left
 ·(intro _ _;go_simp;(try with_reducible rfl))
 try simp only[pu]
 refine' tk 14 39 rfl (by kernel_rfl) (fun _ _ _ h=>h) (by rfl) hHeld ?_ ?_
 rotate_left
 ·(intro _ _;go_simp;(try with_reducible rfl))
 try simp only[pu]
 refine' tk 15 40 rfl (by kernel_rfl) (fun _ _ _ h=>h) (by rfl) hHeld ?_ ?_
 rotate_left
 ·(intro _ _;go_simp;(try with_reducible rfl))
 try simp only[pu]
 refine' tk 16 41 rfl (by kernel_rfl) (fun _ _ _ h=>h) (by rfl) hHeld ?_ ?_
 rotate_left
 ·(intro _ _;go_simp;(try with_reducible rfl))
 try simp only[pu]
 refine' tk 17 42 rfl (by kernel_rfl) (fun _ _ _ h=>h) (by rfl) hHeld ?_ ?_
 rotate_left
 ·(intro _ _;go_simp;(try with_reducible rfl))
 try simp only[pu]
 refine' tk 18 43 rfl (by kernel_rfl) (fun _ _ _ h=>h) (by rfl) hHeld ?_ ?_
 rotate_left
 ·(intro _ _;go_simp;(try with_reducible rfl))
 try simp only[pu]
 refine' tk 19 44 rfl (by kernel_rfl) (fun _ _ _ h=>h) (by rfl) hHeld ?_ ?_
 rotate_left
 ·(intro _ _;go_simp;(try with_reducible rfl))
 try simp only[pu]
 refine' tk 20 45 rfl (by kernel_rfl) (fun _ _ _ h=>h) (by rfl) hHeld ?_ ?_
 rotate_left
 ·(intro w' a9;(try dsimp only at a9);obtain⟨c0,c1,c2,_⟩:=mE.out _ a9;go_simp;(try with_reducible rfl))
 try simp only[pu]
 refine wpAnyH_ready (rs:=[21]) (by kernel_rfl) (by simp) ?_
 refine AllReadyH.cons (i:=21) (o:=⟨some 46,_,_,_,_,_⟩) rfl (fun K hK=> ?_) AllReadyH.nil;go_simp;go_at_call 59;refine(cY.out _).mono ?_
 rintro e w6 ⟨u6,rfl,ka,cZ⟩;obtain⟨f6,g6,G6,j6,y6,Y6,z6,rfl⟩:=ka.shape;have R6:=hid ka;have Xf:=Ext.trans hHeld cZ;clear ka cZ;refine hK.out _ _ ?_ (fun hHeld=> ?_)
 ·exact Xf
 clear hK K;try simp only[pu]
 refine wpAnyH_ready (rs:=[22]) (by kernel_rfl) (by simp) ?_
 refine AllReadyH.cons (i:=22) (o:=⟨some 47,_,_,_,_,_⟩) rfl (fun K hK=> ?_) AllReadyH.nil;go_simp;go_at_call 18;refine(sY.out _ _ _ (R4.out.ext hHeld).arr R6.out.arr).mono ?_
 rintro e w7 ⟨rfl,bx⟩;have yD:=Ext.trans hHeld bx;refine hK.out _ _ ?_ (fun hHeld=> ?_)
 ·exact yD
 clear hK K;try simp only[pu]
 refine' tk 23 48 rfl (by kernel_rfl) (fun _ _ _ h=>h) (by rfl) hHeld ?_ ?_
 rotate_left
 ·(intro _ _;go_simp;(try with_reducible rfl))
 try simp only[pu]
 refine' tk 24 0 rfl (by kernel_rfl) (fun _ _ _ h=>h) (by rfl) hHeld ?_ ?_
 rotate_left
 ·(intro _ _;go_simp;(try with_reducible rfl))
 try simp only[pu]
 refine wpAnyH_done (by kernel_rfl) ?_ _
 have HF:=hid (bw.out.trans yD);clear hHeld Xg Xf yD hx5 bx;go_wp2_with fail;go_ret;exact⟨rfl,HF.out⟩
theorem X2.Ok.same{x:X2}(h:x.Ok)(W:World)(v u:Value)(a:Ao W v x.p x.q)(b:Ao W u x.p x.q):Calls Tryz.prog 18 #[v,u] W fun e w'=>e= .returned (.bool true)/\Ext W w':=
 H7 (N:=32) h.size.1 h.size.2 (by decide) W v u a b
theorem Uy(r:Nat)(h:r<6):∃bs∈FN,bs.length<=3/\∀W b,Blk W b 9 #[.string ⟨#[50]⟩,.string ⟨#[48,46,53]⟩,.string ⟨#[51]⟩,.string ⟨#[49,48]⟩,.string ⟨#[48,46,49]⟩,.string ⟨#[55]⟩]->W.cell? ⟨b,r,none⟩=some (str bs):=by
 rcases(show r=0\/r=1\/r=2\/r=3\/r=4\/r=5 by omega) with rfl|rfl|rfl|rfl|rfl|rfl
 ·exact⟨[50],by decide,by decide,fun W b h=>h.cell 0⟩
 ·exact⟨[48,46,53],by decide,by decide,fun W b h=>h.cell 1⟩
 ·exact⟨[51],by decide,by decide,fun W b h=>h.cell 2⟩
 ·exact⟨[49,48],by decide,by decide,fun W b h=>h.cell 3⟩
 ·exact⟨[48,46,49],by decide,by decide,fun W b h=>h.cell 4⟩
 ·exact⟨[55],by decide,by decide,fun W b h=>h.cell 5⟩
theorem UY(r:Nat)(h:r<7):∃p∈JJ,p.1.length<=2/\∀W b,Blk W b 9 #[.string ⟨#[57]⟩,.string ⟨#[49,48]⟩,.string ⟨#[49,49]⟩,.string ⟨#[51,49]⟩,.string ⟨#[51,50]⟩,.string ⟨#[51,51]⟩,.string ⟨#[54,52]⟩]->W.cell? ⟨b,r,none⟩=some (str p.1):=by
 rcases(show r=0\/r=1\/r=2\/r=3\/r=4\/r=5\/r=6 by omega) with rfl|rfl|rfl|rfl|rfl|rfl|rfl
 ·exact⟨([57],9),by decide,by decide,fun W b h=>h.cell 0⟩
 ·exact⟨([49,48],10),by decide,by decide,fun W b h=>h.cell 1⟩
 ·exact⟨([49,49],11),by decide,by decide,fun W b h=>h.cell 2⟩
 ·exact⟨([51,49],31),by decide,by decide,fun W b h=>h.cell 3⟩
 ·exact⟨([51,50],32),by decide,by decide,fun W b h=>h.cell 4⟩
 ·exact⟨([51,51],33),by decide,by decide,fun W b h=>h.cell 5⟩
 ·exact⟨([54,52],64),by decide,by decide,fun W b h=>h.cell 6⟩
theorem SV(b e:List UInt8)(k:Nat):(E7 b e k).length=b.length+k*(3+e.length):=by
 induction k with
 |zero=>simp[E7]
 |succ k ih=>
  rw[E7];simp only[List.length_cons,List.length_append,List.length_nil,ih,Nat.succ_mul];omega
theorem QL(b e:List UInt8)(k:Nat):(40::(E7 b e k++[41,94]))++e=E7 b e (k+1):=by
 rw[E7];simp
theorem JK(w:World)(n m:Int)(b0:Bool)(m0 d0:Value)(WR WO:List Nat)(hn: -9223372036854775808<=n/\n<=9223372036854775807)(gM: -9223372036854775808<=m/\m<=9223372036854775807)(h0:Arr w m0 WR)(e0:Arr w d0 WO)(hm:Ce w):
  Calls Tryz.prog 3 #[.int .i64 n,.int .i64 m,.agg #[.bool b0,m0,d0]] w fun e w'=>e= .returned (.bool true)/\Ext w w':=by
 have YI:=hid (fun W hx=>MN W (hm.ext (w':=W) hx));have HM:=hid hm;have qF:=hid (fun W (hx:Ext w W)=>RL W b0 m0 d0 WR WO 40 (h0.ext hx) (e0.ext hx) (by decide) (by decide));rw[show ((40:Nat):Int)=40 from rfl]at qF;unfold E0 at qF;obtain⟨l0,A0,c0,rfl⟩:=h0.shape;obtain⟨k0,D0,t0,rfl⟩:=e0.shape;have Wh:=hid (fun W=>Lk W n 6 hn.1 hn.2 (by decide) (by decide));have mv:=hid (fun W=>Lk W m 3 gM.1 gM.2 (by decide) (by decide));have Yy:=hid (fun W=>Lk W m 7 gM.1 gM.2 (by decide) (by decide));obtain⟨r6,iA⟩:∃r:Nat,(r:Int)=n % 6:=⟨(n % 6).toNat,by omega⟩;obtain⟨r3,bg⟩:∃r:Nat,(r:Int)=m % 3:=⟨(m % 3).toNat,by omega⟩;obtain⟨r7,mJ⟩:∃r:Nat,(r:Int)=m % 7:=⟨(m % 7).toNat,by omega⟩;have h6:(r6:Int)<6:=by omega
 have h3:r3<=2:=by omega
 have h7:(r7:Int)<7:=by omega
 rw[<-iA]at Wh;rw[<-bg]at mv;rw[<-mJ]at Yy;obtain⟨bs,t6,eP,XC⟩:=Uy r6 (by omega);obtain⟨p,hp,hpl,Xj⟩:=UY r7 (by omega);have qO:=hid t6;have HP:=hid hp;have YG:=hid XC;have Yv:=hid Xj;clear h0 e0 hm iA bg mJ t6 hp XC Xj hn gM;go_enter Tryz.func3,Tryz.ntmps3;go_wp2_with fail;have hb0:=(Blk.new w 26 #[.bool b0,.slice A0 l0 c0,.slice D0 k0 t0]);have aq:=((Ext.refl w).alloc (.cells #[.bool b0,.slice A0 l0 c0,.slice D0 k0 t0] 26));generalize w.alloc (.cells #[.bool b0,.slice A0 l0 c0,.slice D0 k0 t0] 26)=wo at *;have HX:=hid aq;have ak:=hid hb0;clear aq hb0;refine(YI.out _ HX.out).mono ?_
 rintro e w1 ⟨rfl,ag⟩;have HX:=hid (HX.out.trans ag);have ak:=hid (ak.out.ext ag);clear ag;obtain⟨a0,a1,a2,_⟩:=ak.out.three;go_wp2_with fail;clear a0 a1 a2 ak;refine(qF.out _ HX.out).mono ?_
 rintro e w2 ⟨r2,ok,qp,qq,rfl,ax,hl2,ae⟩;have HX:=hid (HX.out.trans ae);have RQ:=hid ax;have HL:=hid hl2;obtain⟨f2,g2,G2,j2,y2,Y2,z2,rfl⟩:=ax.shape;clear ax hl2 ae YI qF;cases ok with
 |false=>
  go_wp2_with fail;go_ret;exact⟨rfl,HX.out.alloc _⟩
 |true=>
 obtain⟨_,ZU,ZQ⟩:=HL.out rfl;have VT:=hid (fun W v a=>FY W v qp qq a (by omega) (by omega));have VS:=hid (fun W v a=>IU W v qp qq a (by omega) (by omega));obtain⟨bq,lI⟩:∃bq,decide (max (AG qp.natAbs) (AG qq)<=1024)=bq:=⟨_,rfl⟩;rw[lI]at VT VS;clear ZU ZQ HL lI;go_upto_region 4 with fail;have dW:=Blk.new w2 26 #[.bool f2,.slice G2 g2 j2,.slice Y2 y2 z2];have ab:=(Ext.refl w2).alloc (.cells #[.bool f2,.slice G2 g2 j2,.slice Y2 y2 z2] 26);generalize w2.alloc (.cells #[.bool f2,.slice G2 g2 j2,.slice Y2 y2 z2] 26)=w3 at *;generalize w2.heap.size=qb at *;have WG:=hid (fun W (hx:Ext w3 W)=>dW.ext hx);have RQ:=hid (fun W (hx:Ext w3 W)=>((RQ.out.ext ab).ext hx).arr);have aC:=hid (HX.out.trans ab);clear dW ab HX;go_wp2_with fail;refine(Wh.out _).mono ?_
 rintro e w4 ⟨rfl,rfl⟩;have hc4:=YG.out _ _ (Blk.new w3 9 #[.string ⟨#[50]⟩,.string ⟨#[48,46,53]⟩,.string ⟨#[51]⟩,.string ⟨#[49,48]⟩,.string ⟨#[48,46,49]⟩,.string ⟨#[55]⟩]);have yH:(0:Int)<=(r6:Int):=by omega
 go_upto_region 7 with fail;have bc:=(Ext.refl w3).alloc (.cells #[.string ⟨#[50]⟩,.string ⟨#[48,46,53]⟩,.string ⟨#[51]⟩,.string ⟨#[49,48]⟩,.string ⟨#[48,46,49]⟩,.string ⟨#[55]⟩] 9);generalize w3.alloc (.cells #[.string ⟨#[50]⟩,.string ⟨#[48,46,53]⟩,.string ⟨#[51]⟩,.string ⟨#[49,48]⟩,.string ⟨#[48,46,49]⟩,.string ⟨#[55]⟩] 9)=w4 at *;have bw:=hid bc;clear bc hc4 YG h6 yH Wh;have aZ:IntKind.i64.wrap (1+(r3:Int))=1+(r3:Int):=IntWalk.i64_in _ (by omega);go_wp2_with fail;refine(mv.out _).mono ?_
 rintro e w5 ⟨rfl,rfl⟩;have hsb:str bs=str (E7 bs p.1 0):=rfl;have lM:=hid hsb;clear hsb;go_wp2_with fail;go_loopw [36,10] (fun xX s10 wr=>∃k:Nat,k<=1+r3/\xX= .int .i64 (k:Int)/\s10=str (E7 bs p.1 k)/\Ext w3 wr) (fun xX _ _=>1+r3-(intOf xX).toNat)
 case atStart=>exact⟨0,Nat.zero_le _,rfl,rfl,bw.out⟩
 case round=>
  clear bw;obtain⟨k,hk,rfl,rfl,hx⟩:=hrel;have i3:=hid hx;have aF:=SV bs p.1 k;have qk:(E7 bs p.1 k).length<=100:=by
   have:k*(3+p.1.length)<=3*5:=Nat.mul_le_mul (by omega) (by omega);omega
  have d7:=hid (QL bs p.1 k);clear hx aF;by_cases hlt:k<1+r3
  ·have zm:(k:Int)<1+(r3:Int):=by omega
   have wY:IntKind.i64.wrap ((k:Int)+1)=(k:Int)+1:=IntWalk.i64_in _ (by omega);have ZP:(0:Int)<=(r7:Int):=by omega
   obtain⟨S,hS⟩:∃S,S=E7 bs p.1 k:=⟨_,rfl⟩;rw[<-hS]at qk d7 ⊢;obtain⟨E,hE⟩:∃E,E=p.1:=⟨_,rfl⟩;rw[<-hE]at hpl;have HE:=hid hE;have a0:∀W:World,(binOp .add 9 (.string ⟨#[40]⟩) (str S)).run Tryz.prog W= .ok (str (40::S)) W:=fun W=>Du [40] S (by simp;omega) W
   have a1:∀W:World,(binOp .add 9 (str (40::S)) (.string ⟨#[41,94]⟩)).run Tryz.prog W= .ok (str (40::(S++[41,94]))) W:=fun W=>Du (40::S) [41,94] (by simp;omega) W
   have a2:∀W:World,(binOp .add 9 (str (40::(S++[41,94]))) (str E)).run Tryz.prog W= .ok (str ((40::(S++[41,94]))++E)) W:=fun W=>Du _ E (by simp;omega) W
   have xm:=Yv.out _ _ (Blk.new wr 9 #[.string ⟨#[57]⟩,.string ⟨#[49,48]⟩,.string ⟨#[49,49]⟩,.string ⟨#[51,49]⟩,.string ⟨#[51,50]⟩,.string ⟨#[51,51]⟩,.string ⟨#[54,52]⟩]);rw[<-hE]at xm;have HXN:=hid (i3.out.alloc (.cells #[.string ⟨#[57]⟩,.string ⟨#[49,48]⟩,.string ⟨#[49,49]⟩,.string ⟨#[51,49]⟩,.string ⟨#[51,50]⟩,.string ⟨#[51,51]⟩,.string ⟨#[54,52]⟩] 9));have gG:Hid (str ((40::(S++[41,94]))++E)=str (E7 bs p.1 (k+1))):=hid (by rw[HE.out,d7.out]);clear hS hE d7;generalize hT:(40::(S++[41,94]))++E=T at *;clear hT;go_wp2_with fail;refine(Yy.out _).mono ?_
   rintro e w8 ⟨rfl,rfl⟩;go_wp2_with fail;go_roundw
   ·exact⟨k+1,hlt,by go_num,gG.out,HXN.out⟩
   ·simp only[intOf];omega
  ·obtain rfl:k=1+r3:=by omega
   have jY:1+r3<=3:=by omega
   have zm:decide (((1+r3:Nat):Int)<1+(r3:Int))=false:=decide_eq_false (by omega);have ve:¬(((1+r3:Nat):Int)<1+(r3:Int)):=by omega
   obtain⟨K,hK⟩:∃K,K=1+r3:=⟨_,rfl⟩;rw[<-hK]at zm ve jY qk ⊢;have hK1:1<=K:=by omega
   have gB:=hid (fun W h=>I9 W (E7 bs p.1 K) h);unfold LE at gB;rw[OZ bs qO.out p HP.out K hK1 jY]at gB;have iw:=hid (QN bs qO.out p HP.out K);have bK:(IA bs p.2 K).size<=200:=by rw[QM];omega
   have iW:(IA bs p.2 K).depth<=40:=by rw[O0];omega
   have cY:=hid (fun W v h hm=>Og W v _ h iw.out bK iW hm);have xH:=hid (fun W v h=>Py W v _ h iw.out bK iW);have iP:=hid (N4 (IA bs p.2 K));have sY:=hid (fun W v u a b=>iP.out.same W v u a b);unfold Cy at cY xH;generalize exX (IA bs p.2 K)=X at *;generalize (E7 bs p.1 K).length=TL at *;generalize E7 bs p.1 K=TT at *;generalize IA bs p.2 K=TE at *;obtain⟨st,hst⟩:∃st:Int,(X.st:Int)=st:=⟨_,rfl⟩;rw[hst]at cY xH;have bG:=hid hst;clear hst hK bK iW Yv lM d7;go_wp2_with fail;refine(gB.out _ (HM.out.ext (aC.out.trans i3.out))).mono ?_
   rintro e w5 ⟨v5,rfl,hx5,cT⟩;have dr:=hid (i3.out.trans hx5);have cX:=hid cT;clear hx5 cT gB zm ve;go_wp2_with fail;refine(cY.out w5 v5 cX.out (HM.out.ext (aC.out.trans dr.out))).mono ?_
   rintro e w6 ⟨v6,rfl,ka,cZ⟩;obtain⟨f6,g6,G6,j6,y6,Y6,z6,rfl⟩:=ka.shape;have R6:=hid ka;have dB:=hid (dr.out.trans cZ);have xI:=hid (cX.out.ext cZ);clear ka cZ cY cX;go_upto_region 14 with fail;have ik:=Blk.new w6 26 #[.bool f6,.slice G6 g6 j6,.slice Y6 y6 z6];have bx:=(Ext.refl w6).alloc (.cells #[.bool f6,.slice G6 g6 j6,.slice Y6 y6 z6] 26);generalize w6.alloc (.cells #[.bool f6,.slice G6 g6 j6,.slice Y6 y6 z6] 26)=w7 at *;generalize w6.heap.size=xb at *;have R7:=hid (R6.out.ext bx);have dZ:=hid (dB.out.trans bx);have wj:=hid (xI.out.ext bx);have gR:=hid ik;clear ik bx R6 dB xI;go_wp2_with fail;refine(xH.out w7 v5 wj.out).mono ?_
   rintro e w8 ⟨v8,rfl,dU,bD⟩;obtain⟨f8,g8,G8,j8,y8,Y8,z8,rfl⟩:=dU.shape;have R8:=hid dU;have dq:=hid (dZ.out.trans bD);have R7:=hid (R7.out.ext bD);have gR:=hid (gR.out.ext bD);clear dU bD xH;go_upto_region 15 with fail;have lJ:=Blk.new w8 26 #[.bool f8,.slice G8 g8 j8,.slice Y8 y8 z8];have dn:=(Ext.refl w8).alloc (.cells #[.bool f8,.slice G8 g8 j8,.slice Y8 y8 z8] 26);generalize w8.alloc (.cells #[.bool f8,.slice G8 g8 j8,.slice Y8 y8 z8] 26)=w9 at *;generalize w8.heap.size=yb at *;have ei:=hid (dq.out.trans dn);have xP:=hid (fun W (hx:Ext w9 W)=>(WG.out W (ei.out.trans hx)).three);have xJ:=hid (fun W (hx:Ext w9 W)=>RQ.out W (ei.out.trans hx));have fg:=hid (fun W (hx:Ext w9 W)=>((gR.out.ext dn).ext hx).three);have ph:=hid (fun W (hx:Ext w9 W)=>(lJ.ext hx).three);have VX:=hid (fun W (hx:Ext w9 W)=>((R7.out.ext dn).ext hx).arr);have Ym:=hid (fun W (hx:Ext w9 W)=>((R8.out.ext dn).ext hx).arr);clear lJ dn R7 R8 gR dq;by_cases hs1:st=1
   ·subst hs1;have nx:X.st=1:=by have:=bG.out;omega
    have rq:=iP.out.size;have sV:=hid (fun W v a=>FY W v X.p X.q a (by omega) (by omega));have dT:decide (max (AG X.p.natAbs) (AG X.q)<=1024)=true:=by
     rcases iP.out with ⟨_,_,h⟩|h|h
     ·exact decide_eq_true h
     ·rw[h]at nx;cases nx
     ·rw[h]at nx;cases nx
    rw[dT]at sV;clear nx rq dT;refine wp_region_held_drew (S:=fun w'=>Ext w9 w') (by kernel_rfl) (by exact(Ext.refl w9).drew) (fun hHeld=> ?_);refine' tk 0 64 rfl (by kernel_rfl) (fun _ _ _ h=>h) (by rfl) hHeld ?_ ?_
    rotate_left
    ·(intro _ _;go_simp;(try with_reducible rfl))
    try simp only[pu]
    refine' tk 1 65 rfl (by kernel_rfl) (fun _ _ _ h=>h) (by rfl) hHeld ?_ ?_
    rotate_left
    ·(intro _ _;go_simp;(try with_reducible rfl))
    try simp only[pu]
    refine' tk 2 66 rfl (by kernel_rfl) (fun _ _ _ h=>h) (by rfl) hHeld ?_ ?_
    rotate_left
    ·(intro _ _;go_simp;(try with_reducible rfl))
    try simp only[pu]
    refine' tk 3 67 rfl (by kernel_rfl) (fun _ _ _ h=>h) (by rfl) hHeld ?_ ?_
    rotate_left
    ·(intro _ _;go_simp;(try with_reducible rfl))
    try simp only[pu]
    refine' tk 4 68 rfl (by kernel_rfl) (fun _ _ _ h=>h) (by rfl) hHeld ?_ ?_
    rotate_left
    ·(intro _ _;go_simp;(try with_reducible rfl))
    try simp only[pu]
    refine' tk 5 69 rfl (by kernel_rfl) (fun _ _ _ h=>h) (by rfl) hHeld ?_ ?_
    rotate_left
    ·(intro _ _;go_simp;(try with_reducible rfl))
    try simp only[pu]
    refine' tk 6 70 rfl (by kernel_rfl) (fun _ _ _ h=>h) (by rfl) hHeld ?_ ?_
    rotate_left
    ·(intro _ _;go_simp;(try with_reducible rfl))
    try simp only[pu]
    refine' tk 7 71 rfl (by kernel_rfl) (fun _ _ _ h=>h) (by rfl) hHeld ?_ ?_
    rotate_left
    ·(intro _ _;go_simp;(try with_reducible rfl))
    try simp only[pu]
    refine' tk 8 72 rfl (by kernel_rfl) (fun _ _ _ h=>h) (by rfl) hHeld ?_ ?_
    rotate_left
    ·(intro w' a9;(try dsimp only at a9);obtain⟨c0,c1,c2,_⟩:=fg.out _ a9;go_simp;(try with_reducible rfl))
    try simp only[pu]
    refine' tk 9 73 rfl (by kernel_rfl) (fun _ _ _ h=>h) (by rfl) hHeld ?_ ?_
    rotate_left
    ·(intro w' a9;(try dsimp only at a9);obtain⟨c0,c1,c2,_⟩:=ph.out _ a9;go_simp;(try with_reducible rfl))
    try simp only[pu]
    refine wpAnyH_ready (rs:=[10]) (by kernel_rfl) (by simp) ?_
    refine AllReadyH.cons (i:=10) (o:=⟨some 74,_,_,_,_,_⟩) rfl (fun K hK=> ?_) AllReadyH.nil;go_simp;go_at_call 18;refine(sY.out _ _ _ (VX.out _ hHeld) (Ym.out _ hHeld)).mono ?_
    rintro e wU ⟨rfl,a7⟩;have em:=Ext.trans hHeld a7;clear a7;refine hK.out _ _ ?_ (fun hHeld=> ?_)
    ·exact em
    clear hK K;try simp only[pu]
    refine' tk 11 75 rfl (by kernel_rfl) (fun _ _ _ h=>h) (by rfl) hHeld ?_ ?_
    rotate_left
    ·(intro _ _;go_simp;(try with_reducible rfl))
    try simp only[pu]
    refine' tk 12 76 rfl (by kernel_rfl) (fun _ _ _ h=>h) (by rfl) hHeld ?_ ?_
    rotate_left
    ·(intro _ _;go_simp;(try with_reducible rfl))
    try simp only[pu]
    refine' tk 13 77 rfl (by kernel_rfl) (fun _ _ _ h=>h) (by rfl) hHeld ?_ ?_
    rotate_left
    ·(intro w' a9;(try dsimp only at a9);obtain⟨c0,c1,c2,_⟩:=xP.out _ a9;go_simp;(try with_reducible rfl))
    try simp only[pu]
    refine' tk 15 79 rfl (by kernel_rfl) (fun _ _ _ h=>h) (by rfl) hHeld ?_ ?_
    rotate_left
    ·(intro w' a9;(try dsimp only at a9);obtain⟨c0,c1,c2,_⟩:=xP.out _ a9;go_simp;(try with_reducible rfl))
    try simp only[pu]
    refine wpAnyH_ready (rs:=[14]) (by kernel_rfl) (by simp) ?_
    refine AllReadyH.cons (i:=14) (o:=⟨some 78,_,_,_,_,_⟩) rfl (fun K hK=> ?_) AllReadyH.nil;go_simp;go_at_call 19;refine(VT.out _ _ (xJ.out _ hHeld)).mono ?_
    rintro e YT ⟨rfl,cn⟩;have nw:=Ext.trans hHeld cn;clear cn;refine hK.out _ _ ?_ (fun hHeld=> ?_)
    ·exact nw
    clear hK K;try simp only[pu]
    refine wpAnyH_ready (rs:=[16]) (by kernel_rfl) (by simp) ?_
    refine AllReadyH.cons (i:=16) (o:=⟨some 80,_,_,_,_,_⟩) rfl (fun K hK=> ?_) AllReadyH.nil;go_simp;go_at_call 20;refine(VS.out _ _ (xJ.out _ hHeld)).mono ?_
    rintro e YS ⟨rfl,gU⟩;have lZ:=Ext.trans hHeld gU;clear gU;refine hK.out _ _ ?_ (fun hHeld=> ?_)
    ·exact lZ
    clear hK K;try simp only[pu]
    refine' tk 17 81 rfl (by kernel_rfl) (fun _ _ _ h=>h) (by rfl) hHeld ?_ ?_
    rotate_left
    ·(intro _ _;go_simp;(try with_reducible rfl))
    try simp only[pu]
    refine' tk 18 82 rfl (by kernel_rfl) (fun _ _ _ h=>h) (by rfl) hHeld ?_ ?_
    rotate_left
    ·(intro _ _;go_simp;(try with_reducible rfl))
    try simp only[pu]
    refine' tk 19 83 rfl (by kernel_rfl) (fun _ _ _ h=>h) (by rfl) hHeld ?_ ?_
    rotate_left
    ·(intro _ _;go_simp;(try with_reducible rfl))
    try simp only[pu]
    refine' tk 20 84 rfl (by kernel_rfl) (fun _ _ _ h=>h) (by rfl) hHeld ?_ ?_
    rotate_left
    ·(intro _ _;go_simp;(try with_reducible rfl))
    try simp only[pu]
    refine' tk 21 85 rfl (by kernel_rfl) (fun _ _ _ h=>h) (by rfl) hHeld ?_ ?_
    rotate_left
    ·(intro _ _;go_simp;(try with_reducible rfl))
    try simp only[pu]
    refine' tk 22 86 rfl (by kernel_rfl) (fun _ _ _ h=>h) (by rfl) hHeld ?_ ?_
    rotate_left
    ·(intro _ _;go_simp;(try with_reducible rfl))
    try simp only[pu]
    refine' tk 23 87 rfl (by kernel_rfl) (fun _ _ _ h=>h) (by rfl) hHeld ?_ ?_
    rotate_left
    ·(intro w' a9;(try dsimp only at a9);obtain⟨c0,c1,c2,_⟩:=fg.out _ a9;go_simp;(try with_reducible rfl))
    try simp only[pu]
    refine wpAnyH_ready (rs:=[24]) (by kernel_rfl) (by simp) ?_
    refine AllReadyH.cons (i:=24) (o:=⟨some 88,_,_,_,_,_⟩) rfl (fun K hK=> ?_) AllReadyH.nil;go_simp;go_at_call 19;refine(sV.out _ _ (VX.out _ hHeld)).mono ?_
    rintro e v24 ⟨rfl,ur⟩;have rr:=Ext.trans hHeld ur;clear ur;refine hK.out _ _ ?_ (fun hHeld=> ?_)
    ·exact rr
    clear hK K;try simp only[pu]
    refine' tk 25 89 rfl (by kernel_rfl) (fun _ _ _ h=>h) (by rfl) hHeld ?_ ?_
    rotate_left
    ·(intro _ _;go_simp;(try with_reducible rfl))
    try simp only[pu]
    refine' tk 26 90 rfl (by kernel_rfl) (fun _ _ _ h=>h) (by rfl) hHeld ?_ ?_
    rotate_left
    ·(intro _ _;go_simp;(try with_reducible rfl))
    try simp only[pu]
    refine' tk 27 6 rfl (by kernel_rfl) (fun _ _ _ h=>h) (by rfl) hHeld ?_ ?_
    rotate_left
    ·(intro _ _;go_simp;(try with_reducible rfl))
    try simp only[pu]
    refine wpAnyH_done (by kernel_rfl) ?_ _
    have HF:=hid ((aC.out.trans ei.out).trans rr);clear hHeld em nw lZ rr;go_wp2_with fail;go_ret;exact⟨rfl,HF.out⟩
   ·have iI:(st == 1)=false:=beq_eq_false_iff_ne.2 hs1;have xa:(st != 1)=true:=by simp[bne,iI]
    refine wp_region_held_drew (S:=fun w'=>Ext w9 w') (by kernel_rfl) (by exact(Ext.refl w9).drew) (fun hHeld=> ?_);refine' tk 0 64 rfl (by kernel_rfl) (fun _ _ _ h=>h) (by rfl) hHeld ?_ ?_
    rotate_left
    ·(intro _ _;go_simp;(try with_reducible rfl))
    try simp only[pu]
    refine' tk 1 65 rfl (by kernel_rfl) (fun _ _ _ h=>h) (by rfl) hHeld ?_ ?_
    rotate_left
    ·(intro _ _;go_simp;(try with_reducible rfl))
    try simp only[pu]
    refine' tk 2 66 rfl (by kernel_rfl) (fun _ _ _ h=>h) (by rfl) hHeld ?_ ?_
    rotate_left
    ·(intro _ _;go_simp;(try with_reducible rfl))
    try simp only[pu]
    refine' tk 3 67 rfl (by kernel_rfl) (fun _ _ _ h=>h) (by rfl) hHeld ?_ ?_
    rotate_left
    ·(intro _ _;go_simp;(try with_reducible rfl))
    try simp only[pu]
    refine' tk 4 68 rfl (by kernel_rfl) (fun _ _ _ h=>h) (by rfl) hHeld ?_ ?_
    rotate_left
    ·(intro _ _;go_simp;(try with_reducible rfl))
    try simp only[pu]
    refine' tk 5 69 rfl (by kernel_rfl) (fun _ _ _ h=>h) (by rfl) hHeld ?_ ?_
    rotate_left
    ·(intro _ _;go_simp;(try with_reducible rfl))
    try simp only[pu]
    refine' tk 6 70 rfl (by kernel_rfl) (fun _ _ _ h=>h) (by rfl) hHeld ?_ ?_
    rotate_left
    ·(intro _ _;go_simp;(try with_reducible rfl))
    try simp only[pu]
    refine' tk 7 71 rfl (by kernel_rfl) (fun _ _ _ h=>h) (by rfl) hHeld ?_ ?_
    rotate_left
    ·(intro _ _;go_simp;(try with_reducible rfl))
    try simp only[pu]
    refine' tk 8 72 rfl (by kernel_rfl) (fun _ _ _ h=>h) (by rfl) hHeld ?_ ?_
    rotate_left
    ·(intro w' a9;(try dsimp only at a9);obtain⟨c0,c1,c2,_⟩:=fg.out _ a9;go_simp;(try with_reducible rfl))
    try simp only[pu]
    refine' tk 9 73 rfl (by kernel_rfl) (fun _ _ _ h=>h) (by rfl) hHeld ?_ ?_
    rotate_left
    ·(intro w' a9;(try dsimp only at a9);obtain⟨c0,c1,c2,_⟩:=ph.out _ a9;go_simp;(try with_reducible rfl))
    try simp only[pu]
    refine wpAnyH_ready (rs:=[10]) (by kernel_rfl) (by simp) ?_
    refine AllReadyH.cons (i:=10) (o:=⟨some 74,_,_,_,_,_⟩) rfl (fun K hK=> ?_) AllReadyH.nil;go_simp;go_at_call 18;refine(sY.out _ _ _ (VX.out _ hHeld) (Ym.out _ hHeld)).mono ?_
    rintro e wU ⟨rfl,a7⟩;have em:=Ext.trans hHeld a7;clear a7;refine hK.out _ _ ?_ (fun hHeld=> ?_)
    ·exact em
    clear hK K;try simp only[pu]
    refine' tk 11 75 rfl (by kernel_rfl) (fun _ _ _ h=>h) (by rfl) hHeld ?_ ?_
    rotate_left
    ·(intro _ _;go_simp;(try with_reducible rfl))
    try simp only[pu]
    refine' tk 12 76 rfl (by kernel_rfl) (fun _ _ _ h=>h) (by rfl) hHeld ?_ ?_
    rotate_left
    ·(intro _ _;go_simp;(try with_reducible rfl))
    try simp only[pu]
    refine' tk 13 77 rfl (by kernel_rfl) (fun _ _ _ h=>h) (by rfl) hHeld ?_ ?_
    rotate_left
    ·(intro w' a9;(try dsimp only at a9);obtain⟨c0,c1,c2,_⟩:=xP.out _ a9;go_simp;(try with_reducible rfl))
    try simp only[pu]
    refine' tk 15 79 rfl (by kernel_rfl) (fun _ _ _ h=>h) (by rfl) hHeld ?_ ?_
    rotate_left
    ·(intro w' a9;(try dsimp only at a9);obtain⟨c0,c1,c2,_⟩:=xP.out _ a9;go_simp;(try with_reducible rfl))
    try simp only[pu]
    refine wpAnyH_ready (rs:=[14]) (by kernel_rfl) (by simp) ?_
    refine AllReadyH.cons (i:=14) (o:=⟨some 78,_,_,_,_,_⟩) rfl (fun K hK=> ?_) AllReadyH.nil;go_simp;go_at_call 19;refine(VT.out _ _ (xJ.out _ hHeld)).mono ?_
    rintro e YT ⟨rfl,cn⟩;have nw:=Ext.trans hHeld cn;clear cn;refine hK.out _ _ ?_ (fun hHeld=> ?_)
    ·exact nw
    clear hK K;try simp only[pu]
    refine wpAnyH_ready (rs:=[16]) (by kernel_rfl) (by simp) ?_
    refine AllReadyH.cons (i:=16) (o:=⟨some 80,_,_,_,_,_⟩) rfl (fun K hK=> ?_) AllReadyH.nil;go_simp;go_at_call 20;refine(VS.out _ _ (xJ.out _ hHeld)).mono ?_
    rintro e YS ⟨rfl,gU⟩;have lZ:=Ext.trans hHeld gU;clear gU;refine hK.out _ _ ?_ (fun hHeld=> ?_)
    ·exact lZ
    clear hK K;try simp only[pu]
    refine' tk 17 81 rfl (by kernel_rfl) (fun _ _ _ h=>h) (by rfl) hHeld ?_ ?_
    rotate_left
    ·(intro _ _;go_simp;(try with_reducible rfl))
    try simp only[pu]
    refine' tk 18 82 rfl (by kernel_rfl) (fun _ _ _ h=>h) (by rfl) hHeld ?_ ?_
    rotate_left
    ·(intro _ _;go_simp;(try with_reducible rfl))
    try simp only[pu]
    refine' tk 19 83 rfl (by kernel_rfl) (fun _ _ _ h=>h) (by rfl) hHeld ?_ ?_
    rotate_left
    ·(intro _ _;go_simp;(try with_reducible rfl))
    try simp only[pu]
    refine' tk 20 84 rfl (by kernel_rfl) (fun _ _ _ h=>h) (by rfl) hHeld ?_ ?_
    rotate_left
    ·(intro _ _;go_simp;(try with_reducible rfl))
    try simp only[pu]
    refine' tk 21 85 rfl (by kernel_rfl) (fun _ _ _ h=>h) (by rfl) hHeld ?_ ?_
    rotate_left
    ·(intro _ _;go_simp;(try with_reducible rfl))
    try simp only[pu]
    refine' tk 22 86 rfl (by kernel_rfl) (fun _ _ _ h=>h) (by rfl) hHeld ?_ ?_
    rotate_left
    ·(intro _ _;go_simp;(try with_reducible rfl))
    try simp only[pu]
    refine' wpAnyH_take (i:=23) (oi:=⟨some 87,_,_,_,_,_⟩) (v:=undef) rfl (by kernel_rfl) (by kernel_rfl) (by kernel_rfl) (fun _ _ _ h=>h) (Or.inr ⟨by rfl,rfl⟩) hHeld ?_
    try simp only[pu]
    refine' wpAnyH_take (i:=24) (oi:=⟨some 88,_,_,_,_,_⟩) (v:=undef) rfl (by kernel_rfl) (by kernel_rfl) (by kernel_rfl) (fun _ _ _ h=>h) (Or.inr ⟨by rfl,rfl⟩) hHeld ?_
    try simp only[pu]
    refine' tk 25 89 rfl (by kernel_rfl) (fun _ _ _ h=>h) (by rfl) hHeld ?_ ?_
    rotate_left
    ·(intro _ _;go_simp;(try with_reducible rfl))
    try simp only[pu]
    refine' tk 26 90 rfl (by kernel_rfl) (fun _ _ _ h=>h) (by rfl) hHeld ?_ ?_
    rotate_left
    ·(intro _ _;go_simp;(try with_reducible rfl))
    try simp only[pu]
    refine' tk 27 6 rfl (by kernel_rfl) (fun _ _ _ h=>h) (by rfl) hHeld ?_ ?_
    rotate_left
    ·(intro _ _;go_simp;(try with_reducible rfl))
    try simp only[pu]
    refine wpAnyH_done (by kernel_rfl) ?_ _
    have HF:=hid ((aC.out.trans ei.out).trans lZ);clear hHeld em nw lZ;go_wp2_with fail;go_ret;exact⟨rfl,HF.out⟩
end Big
end Go.Proofs.YtkoaogkknnelaaaGreatDoor
namespace Go.Proofs.YtkoaogkknnelaaaGreatDoor
open Go.ChangeShapes Go.WideShapes Go.ChangeAt Go.RowKit
section
variable {H:Type} {enc:TypeId × Value->H} {P:Program}
theorem FQ(hl:laidOutB P=true){W W':World}(hb:Big.Ext W W'):∀(ts:List TypeId) (vs:List Value) (ds:List (DataW H)) (ps:List MemPlace),
  (∀t∈ts,P.readableRec t=true/\t<P.types.size)->DataW.TrodAll enc P W 0 (fun _=>true) true ts vs ds ps->(∀x∈ps,x.block<W.heap.size)->
  DataW.TrodAll enc P W' 0 (fun b=>decide (b<W.heap.size)) true ts vs ds ps
 |[],vs,ds,ps,_,h,_=>by
  obtain⟨rfl,rfl,rfl⟩:=trodAll_nil h;exact trodAll_mk0
 |t::ts,vs,ds,ps,ht,h,hlt=>by
  obtain⟨v,uh,d,ds',p,q,rfl,rfl,rfl,h1,h2⟩:=trodAll_cons h;exact trodAll_cons_mk (Below.trod hl (ht t (by simp)).1 (ht t (by simp)).2 h1 hb (fun x hx=>hlt x (List.mem_append_left _ hx)))
   (FQ hl hb ts uh ds' q (fun t' h'=>ht t' (by simp[h'])) h2 (fun x hx=>hlt x (List.mem_append_right _ hx)))
theorem PO {f:Func} {s:ChangeSpec} {W W':World} {args:Array Value} {ds gs:List (DataW H)} {fL:List MemPlace} {tb:TypeId} (hl:laidOutB P=true)
  (qc:(f.params.toList.all fun t=>P.readableRec t && decide (t<P.types.size))=true) (hv:s.vars=[]) (hr:f.resultTypes= #[tb]) (qd:P.underlying tb=some .bool)
  (hW:DataW.Whole enc P f.params.toList s.vars false W args.toList ds gs fL) (hfn:s.fn H ds={ results:=[.lit (.bool true)],args:=ds }) (hb:Big.Ext W W'):
  s.post enc P f false true false false W args (.bool true) W':=by
 have hlt:=hW.lt;have zW:=hW;obtain⟨p,q,hA,hV,rfl,iD,jF⟩:=hW;rw[hv]at hV;obtain⟨rfl,rfl⟩:=trodVars_none hV;have nQ:s.fn H (ds++[])={ results:=[.lit (.bool true)],args:=ds }:=by rw[List.append_nil];exact hfn
 refine⟨ds,[],p++[],[],p,[],zW,?_,?_,?_,hb.frame _,fun h=>by cases h⟩
 ·rw[nQ,hr];exact trodAll_mk1 (shut_bool qd _)
 ·rw[nQ];exact FQ hl hb _ _ _ _ (fun t ht=>by
   have:=List.all_eq_true.1 qc t ht
   simpa using this) hA (fun x hx=>hlt x (by simpa using hx))
 ·rw[nQ,hv];rfl
end
theorem GJ {H:Type} {enc:TypeId × Value->H} {a:Assume} {C:Checked} {os:Os} {f:FuncId} {fn:Func} {s:ChangeSpec} {qA:List PathCond} {apart qz lK qC:Bool} {X:World->Array Value->Prop}
  (hX:∀(w w':World) (args:Array Value),w.heap=w'.heap->X w args->X w' args)
  (own:ownKnob C.prog.godebug=none) (started:os.Started) (qW:C.prog.inits.idxOf? f=none) (hfn:C.prog.funcs[f]? =some fn)
  (pj:∃(w:World) (tape:Tape) (i:Input),w.os=os/\(w.forCall tape i).Shaped C.prog/\i.vars=[]/\Input.okWide C.prog (w.forCall tape i) .any w.heap.size f i/\
   ((s.pre enc C.prog fn qA apart (w.forCall tape i).memory i.args/\X (w.forCall tape i).memory i.args)/\sizedMet enc C.prog fn (OpenSpec.ofChange s) apart (w.forCall tape i).memory i.args)/\a.holds C.prog (lone (Frame.enter C.prog f i.args .normal) [] (w.forCall tape i)))
  (oe:∀(W:World) (dL:Nat) (args:Array Value) (ds gs:List (DataW H)) (fL:List MemPlace),
   (∀(j:Nat) t v,fn.params[j]? =some t->args[j]? =some v->Value.okWide C.prog W .any dL t v)->
   DataW.Whole enc C.prog fn.params.toList s.vars apart W args.toList ds gs fL->
   (DataW.weightsEach C.prog (fn.params.toList++s.plain.varTypes C.prog) (ds++gs)).all (·<=reachBytes)=true->X W args->W.ShapedOpen C.prog->
   Calls C.prog f args W fun e W'=>∃v,e= .returned v/\s.post enc C.prog fn apart qz lK qC W args v W'):
  ReturnsInHanded a C os f .any (fun w args=>(s.pre enc C.prog fn qA apart w args/\X w args)/\sizedMet enc C.prog fn (OpenSpec.ofChange s) apart w args) (s.post enc C.prog fn apart qz lK qC):=by
 refine returnsInHanded_of_calls own started qW pj ?_
 intro w tape i _ yC _ az yP zu;obtain⟨_,_,_,fn',nQ,_,_,_,_,bd⟩:=az;have e:fn'=fn:=Option.some.inj (nQ.symm.trans hfn);subst e;obtain⟨⟨⟨ds,gs,fL,hw,hc⟩,hx⟩,hz⟩:=yP;have ZB:=DataW.Whole.of_heap (w':=w.forCall tape i) (by rfl) hw;refine(oe (w.forCall tape i) w.heap.size i.args ds gs fL bd ZB (hz.weights hw) (hX _ _ _ (by rfl) hx) yC).mono fun e W' ⟨v,he,hp⟩=> ?_
 subst he;exact ChangeSpec.post_blind hp
theorem RW:laidOutB Tryz.prog=true:=by kernel_rfl
theorem own:ownKnob Tryz.prog.godebug=none:=by kernel_rfl
section
variable {P:Program} {W:World}
end
section
variable {H:Type} {enc:TypeId × Value->H} {W:World} {fuel:Nat} {v:Value} {y:DataW H × List MemPlace}
theorem MJ:Tryz.prog.cellsOf 183=1:=by kernel_rfl
theorem Iw(h:DataW.trod enc Tryz.prog W 0 (fun _=>true) true fuel 22 [v]=some y):∃xs,Big.Arr W v xs:=by
 rcases open_ints Tryz.underlying22 Tryz.underlying183 MJ h with ⟨hv,_⟩|⟨a,len,cap,zs,hv,_,hl,hm,hz,_,hc,hw⟩
 ·injection hv with hv
  subst hv;exact⟨[],Big.Arr.none_ W⟩
 ·injection hv with hv
  subst hv;simp only[if_true]at hz;refine⟨(zs.take len).map Int.toNat,?_⟩;have aF:((zs.take len).map Int.toNat).length=len:=by simp;omega
  have az:Big.Ok ((zs.take len).map Int.toNat):=fun x hx=>by
   obtain⟨n,hn,rfl⟩:=List.mem_map.1 hx;have:=bounds_u32 (hw n (List.mem_of_mem_take hn));omega
  have key:=Big.Arr.mk (w:=W) (A:=some a) (c:=cap) az (by rw[aF];exact hl) hm (fun hp=>by
   rw[aF]at hp ⊢;obtain⟨b,off,rfl,aa⟩:=ints_at hc (by omega);have h0:=aa 0 (by omega);refine⟨b,off,rfl,World.block_lt_of_cell? W _ h0,fun j hj=> ?_⟩;rw[aa j (by omega)];have rT:j<zs.length:=by omega
   have hb:=bounds_u32 (hw zs[j] (List.getElem_mem rT));have e1:zs.getD j 0=zs[j]:=by rw[List.getD_eq_getElem?_getD,List.getElem?_eq_getElem rT];rfl
   have e2:((zs.take len).map Int.toNat).getD j 0=zs[j].toNat:=by
    rw[List.getD_eq_getElem?_getD,List.getElem?_map,List.getElem?_take_of_lt hj,List.getElem?_eq_getElem rT];rfl
   rw[e1,e2];unfold Big.d32;rw[Int.toNat_of_nonneg hb.1])
  rw[aF]at key;exact key
theorem Lx(h:DataW.trod enc Tryz.prog W 0 (fun _=>true) true fuel 4 [v]=some y):∃b,v= .bool b:=by
 obtain⟨b,hb,_⟩:=DataW.trod_bool Tryz.underlying4 h;injection hb with hb
 exact⟨b,hb⟩
end
section
variable {H:Type} {enc:TypeId × Value->H} {W:World} {v:Value} {d:DataW H} {p:List MemPlace} {r:Reach} {b0:Nat}
end
end Go.Proofs.YtkoaogkknnelaaaGreatDoor
