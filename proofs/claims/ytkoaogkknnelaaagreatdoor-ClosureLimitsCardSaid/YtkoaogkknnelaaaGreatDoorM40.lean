import Derived.Test.YtkoaogkknnelaaaGreatDoorM38
import Derived.Test.YtkoaogkknnelaaaGreatDoorM39
import Derived.Test.YtkoaogkknnelaaaGreatDoorRows
import Derived.ProofKit
import Derived.LaidMore
import Derived.OpenShut
import Derived.Stop.Joined
import Derived.Lib.LaidTab
import Derived.Handed
import Derived.HandedShaped
import Derived.Deep.Strs
import Derived.ChangeMaps5
import Derived.Lib.SmallJoins
set_option linter.unusedVariables false
set_option linter.unusedSimpArgs false
set_option maxHeartbeats 16000000
set_option maxRecDepth 100000
namespace Go.Proofs.YtkoaogkknnelaaaGreatDoor
namespace Big
open Lib renaming hid → J
open Go.RowKit
theorem R6(w:World):AG w.heap.size (w.alloc (.cells #[.string ⟨#[120]⟩,.int .i64 0,.string ⟨#[121]⟩,.int .i64 2] 62)) (.slice (some ⟨w.heap.size,0,none⟩) 2 2) Dv:=by
 unfold AG World.ownsRow;refine⟨rfl,.inr ⟨w.heap.size,2,_,rfl,Nat.le_refl _,(Blk.new w _ _),?_⟩⟩;exact⟨by decide,by decide,rfl,rfl⟩
theorem DZ(w:World)(hm:BC w):Calls Tryz.prog 31 #[] w fun e w'=>e= .returned (.bool true)/\Ext w w':=by
 have HM:=J hm;have bC:=J (MY w hm);have HA:Hid (∀g b W nv,GrP w.heap.size g b W [] nv->BC W->Calls Tryz.prog 90 #[.pointer (some ⟨g,0,none⟩),.string ⟨#[49]⟩] W (Kd w.heap.size g b nv 0 P7 W)):=J (fun g b W nv h hmm=>Gk _ g b W [] nv h [49] Ow 1 0 P7 Tl Ty Gd (by decide) (by decide) (by decide) hmm);have HB:Hid (∀g b W nv,GrP w.heap.size g b W P7 nv->BC W->Calls Tryz.prog 90 #[.pointer (some ⟨g,0,none⟩),.string ⟨#[120,32,43,32,120]⟩] W (Kd w.heap.size g b nv 2 P6 W)):=J (fun g b W nv h hmm=>Gk _ g b W P7 nv h [120,32,43,32,120] Ov 5 2 P6 Tk Tw O4 (by decide) (by decide) (by decide) hmm);have HC:Hid (∀g b W nv,GrP w.heap.size g b W P6 nv->BC W->Calls Tryz.prog 90 #[.pointer (some ⟨g,0,none⟩),.string ⟨#[121,32,42,32,121]⟩] W (Kd w.heap.size g b nv 4 P5 W)):=J (fun g b W nv h hmm=>Gk _ g b W P6 nv h [121,32,42,32,121] Ou 5 4 P5 Tj Tv O3 (by decide) (by decide) (by decide) hmm);have HD:Hid (∀g b W nv,GrP w.heap.size g b W P5 nv->BC W->Calls Tryz.prog 90 #[.pointer (some ⟨g,0,none⟩),.string ⟨#[40,49,32,43,32,49,41,32,42,32,40,49,32,43,32,49,41]⟩] W (Kd w.heap.size g b nv 6 C9 W)):=J (fun g b W nv h hmm=>Gk _ g b W P5 nv h [40,49,32,43,32,49,41,32,42,32,40,49,32,43,32,49,41] Ot 17 6 C9 Ti Tu SR (by decide) (by decide) (by decide) hmm);unfold Kd at HA HB HC HD;clear hm;go_enter Tryz.func31,Tryz.ntmps31;go_wp2_with fail;refine bC.o.mono ?_
 rintro e w0 ⟨g,b,rfl,lG,hx0⟩;have ek:=J hx0;have xr:=J lG;have oH:=J (HM.o.ext hx0);clear lG hx0 bC;go_wp2_with fail;refine(HA.o g b _ _ xr.o oH.o).mono ?_
 rintro e w1 ⟨aZ,rfl,hk,hg⟩;have ah:=J (ek.o.more (hk.below xr.o));have tc:=J (oH.o.below (hk.below xr.o) xr.o.low);have jp:=J hg;clear hk hg HA xr oH ek;go_wp2_with fail;refine(HB.o g b _ _ jp.o tc.o).mono ?_
 rintro e w2 ⟨nv2,rfl,hk,hg⟩;have aq:=J (ah.o.more (hk.below jp.o));have cS:=J (tc.o.below (hk.below jp.o) jp.o.low);have dE:=J hg;clear hk hg HB jp tc ah;go_wp2_with fail;refine(HC.o g b _ _ dE.o cS.o).mono ?_
 rintro e w3 ⟨pp,rfl,hk,hg⟩;have aj:=J (aq.o.more (hk.below dE.o));have lO:=J (cS.o.below (hk.below dE.o) dE.o.low);have eQ:=J hg;clear hk hg HC dE cS aq;go_wp2_with fail;refine(HD.o g b _ _ eQ.o lO.o).mono ?_
 rintro e w4 ⟨mN,rfl,hk,hg⟩;have aE:=J (aj.o.more (hk.below eQ.o));have oG:=J (lO.o.below (hk.below eQ.o) eQ.o.low);have iS:=J hg;clear hk hg HD eQ lO aj;go_upto_region 4 with fail;have cY:=R6 w4;have hx5:=(Ext.refl w4).alloc (.cells #[.string ⟨#[120]⟩,.int .i64 0,.string ⟨#[121]⟩,.int .i64 2] 62);generalize w4.alloc (.cells #[.string ⟨#[120]⟩,.int .i64 0,.string ⟨#[121]⟩,.int .i64 2] 62)=w5 at *;have bg:=J (aE.o.trans hx5);have qd:=J (oG.o.ext hx5);have li:=J (iS.o.keep hx5);have gT:=J cY;have bH:=J (Dc w.heap.size g b w5 C9 mN (iS.o.keep hx5) _ Dv (cY.mono (Nat.zero_le _)) K8 4 (oG.o.ext hx5));unfold Ck at bH;generalize w4.heap.size=eb at *;clear cY hx5 aE oG iS;go_wp2_with fail;refine bH.o.mono ?_
 rintro e w6 ⟨z,c,ms6,ue,rfl,aB,iL,bK⟩;obtain⟨rfl,rfl,rfl⟩:=aB.uniq RW;have aO:=J (bg.o.more (bK.below li.o));have dj:=J (gT.o.prog li.o bK);have tq:=J iL;clear aB iL bK bH bg qd li gT;have xx:Hid (∀W,Ext w6 W->Calls Tryz.prog 48 #[.pointer (some ⟨g,0,none⟩),.slice (some ⟨eb,0,none⟩) 2 2,.string ⟨#[120]⟩,.int .i64 2] W fun e w'=>e= .returned (.bool true)/\Ext W w'):=J (fun W hx=>(JY _ g b W C9 ue (tq.o.keep hx) _ Dv (dj.o.ext hx).read (by decide) TE [120] (by decide) 2).mono (fun e w' ⟨d,h1,h2,h3⟩=>by
  rw[h2.2 TL]at h1;exact⟨h1,h3⟩))
 have ZQ:Hid (∀W,Ext w6 W->Calls Tryz.prog 46 #[.pointer (some ⟨g,0,none⟩),.slice (some ⟨eb,0,none⟩) 2 2,.string ⟨#[120]⟩] W fun e w'=>∃v',e= .returned v'/\Bl w' v' [[121]]/\Ext W w'):=J (fun W hx=>(Kv _ g b W C9 ue (tq.o.keep hx) _ Dv (dj.o.ext hx).read (by decide) [120]).mono (fun e w' ⟨v',h1,h2,h3⟩=>by
  rw[Sq]at h2;exact⟨v',h1,h2.arr,h3⟩))
 have jw:Hid (∀W v u,Bl W v [[121]]->Bl W u [[121]]->Calls Tryz.prog 45 #[v,u] W fun e w'=>e= .returned (.bool true)/\Ext W w'):=J (fun W v u h1 h2=>(Ip W v u _ _ h1 h2 (by decide) (by decide)).mono (fun e w' ⟨p,q⟩=>by
  rw[decide_eq_true rfl]at p;exact⟨p,q⟩))
 have jX:Hid (∀W,Ext w6 W->Calls Tryz.prog 34 #[.pointer (some ⟨g,0,none⟩),.slice (some ⟨eb,0,none⟩) 2 2] W fun e w'=>e= .returned (.bool true)/\Ext W w'):=J (fun W hx=>(Df _ g b W C9 ue (tq.o.keep hx) _ Dv (dj.o.ext hx).read (by decide) TE).mono (fun e w' ⟨d,h1,h2,h3⟩=>by
  rw[h2.2 K8]at h1;exact⟨h1,h3⟩))
 clear tq dj;go_wp2_with fail;refine(xx.o _ (Ext.refl w6)).mono ?_
 rintro e w7 ⟨rfl,bq⟩;have ay:=J bq;clear bq;go_wp2_with fail;refine(ZQ.o _ ay.o).mono ?_
 rintro e w8 ⟨uv,rfl,hu,bI⟩;have bV:=J (ay.o.trans bI);have UM:=J hu;clear bI hu;go_wp2_with fail;refine(jw.o _ _ _ (UM.o.ext ((Ext.refl w8).alloc _)) (Bl.fresh1 w8 [121])).mono ?_
 rintro e w9 ⟨rfl,iV⟩;have dz:=J ((bV.o.alloc _).trans iV);clear iV;go_wp2_with fail;refine(jX.o _ dz.o).mono ?_
 rintro e de ⟨rfl,cX⟩;have HF:=J (aO.o.trans (dz.o.trans cX));clear cX;go_wp2_with fail;go_ret;exact⟨rfl,HF.o⟩
theorem Ib(w:World)(v u:Value)(l m:List Int)(id:Int)(t:List UInt8)(hi: -9223372036854775808<=id/\id<=9223372036854775807)(ht:t.length<=maxLen)(h:De w v l)(h':De w u m)(hm:BC w):
  Calls Tryz.prog 8 #[v,u,.int .i64 id,str t] w fun e w'=>e= .returned (.bool true)/\Ext w w':=by
 have gK:=J (DZ w hm);have HM:=J hm;have HL:=J h;have cj:=J h';have aW:=J (fun W hx=>Di W v l (HL.o.ext hx));have ch:=J (fun W hx=>Di W u m (cj.o.ext hx));obtain⟨A0,c0,rfl,_⟩:=h.open;obtain⟨A9,c9,rfl,_⟩:=h'.open;clear h h' hm;by_cases hlt:120<l.length
 ·have hd:decide (l.length<=120)=false:=decide_eq_false (by omega);rw[hd]at aW;clear HL cj hlt hd;go_enter Tryz.func8,Tryz.ntmps8;go_wp2_with fail;refine gK.o.mono ?_
  rintro e w1 ⟨rfl,am⟩;have ah:=J am;clear am;go_wp2_with fail;refine(aW.o _ ah.o).mono ?_
  rintro e w2 ⟨rfl,rfl⟩;go_wp2_with fail;go_ret;exact⟨rfl,ah.o⟩
 have hd:decide (l.length<=120)=true:=decide_eq_true (by omega);rw[hd]at aW;have fG:l.length<=120:=by omega
 clear hlt hd;by_cases hlt2:120<m.length
 ·have hd:decide (m.length<=120)=false:=decide_eq_false (by omega);rw[hd]at ch;clear HL cj hlt2 hd;go_enter Tryz.func8,Tryz.ntmps8;go_wp2_with fail;refine gK.o.mono ?_
  rintro e w1 ⟨rfl,am⟩;have ah:=J am;clear am;go_wp2_with fail;refine(aW.o _ ah.o).mono ?_
  rintro e w2 ⟨rfl,rfl⟩;go_wp2_with fail;refine(ch.o _ ah.o).mono ?_
  rintro e w2 ⟨rfl,rfl⟩;go_wp2_with fail;go_ret;exact⟨rfl,ah.o⟩
 have hd:decide (m.length<=120)=true:=decide_eq_true (by omega);rw[hd]at ch;have jd:m.length<=120:=by omega
 clear hlt2 hd;by_cases hlt3:100<t.length
 ·have hd:decide ((t.length:Int)>100)=true:=decide_eq_true (by omega);have ba:decide ((100:Int)<(t.length:Int))=true:=decide_eq_true (by omega);have kT:decide (100<t.length)=true:=decide_eq_true hlt3;clear HL cj hlt3;go_enter Tryz.func8,Tryz.ntmps8;go_wp2_with fail;refine gK.o.mono ?_
  rintro e w1 ⟨rfl,am⟩;have ah:=J am;clear am;go_wp2_with fail;refine(aW.o _ ah.o).mono ?_
  rintro e w2 ⟨rfl,rfl⟩;go_wp2_with fail;refine(ch.o _ ah.o).mono ?_
  rintro e w2 ⟨rfl,rfl⟩;go_wp2_with fail;go_ret;exact⟨rfl,ah.o⟩
 have hd:decide ((t.length:Int)>100)=false:=decide_eq_false (by omega);have ba:decide ((100:Int)<(t.length:Int))=false:=decide_eq_false (by omega);have kT:decide (100<t.length)=false:=decide_eq_false hlt3;have kW:=J hlt3;clear hlt3;go_enter Tryz.func8,Tryz.ntmps8;go_wp2_with fail;refine gK.o.mono ?_
 rintro e w1 ⟨rfl,am⟩;have ah:=J am;clear am;go_wp2_with fail;refine(aW.o _ ah.o).mono ?_
 rintro e w2 ⟨rfl,rfl⟩;go_wp2_with fail;refine(ch.o _ ah.o).mono ?_
 rintro e w2 ⟨rfl,rfl⟩;have bx:=J (FF w1 _ _ l m (HL.o.ext ah.o) (cj.o.ext ah.o) (by omega) (by omega) (HM.o.ext ah.o));unfold Snd at bx;clear aW ch HL cj gK fG jd;go_wp2_with fail;refine bx.o.mono ?_
 rintro e w2 ⟨g,b,gr,ns,nv,rv,ev,env,d,rfl,hs,fx,mm,cd,hd⟩;clear bx;cases d
 ·have aq:=J (ah.o.trans hs.ex);clear hs fx mm cd hd;go_wp2_with fail;go_ret;exact⟨rfl,aq.o⟩
 have cP:=J (hd.1 rfl);have HS:=J hs;have eD:=J cd;have kf:=J mm;clear hd hs mm cd;clear hd ba kT;obtain⟨AR,cR,e7⟩:=HS.o.two.r.row.shape;subst e7;have k0:=HS.o.two.r.blk.oneG;have ur:IntKind.i64.wrap ((ns.length:Int)+1)=(ns.length:Int)+1:=IntWalk.i64_in _ (by omega);have pi:=J (fun W=>Gb W id ((ns.length:Int)+1) hi.1 hi.2 (by omega) (by omega));generalize id % ((ns.length:Int)+1)=r at *;go_wp2_with fail;refine(pi.o _).mono ?_
 rintro e w3 ⟨rfl,rfl⟩;clear pi;go_upto_region 11 with fail;have cV:=Blk.new w2 3 #[.int .i64 id,.int .i64 r,.int .i64 (-1)];have ae:=(Ext.refl w2).alloc (.cells #[.int .i64 id,.int .i64 r,.int .i64 (-1)] 3);generalize w2.alloc (.cells #[.int .i64 id,.int .i64 r,.int .i64 (-1)] 3)=w3 at *;generalize w2.heap.size=lb at *;have aD:=J cV;have dL:=J (HS.o.keep ae);clear cV ae HS k0 ur;have jw:=J (fun W v u (l:List Tx) (h1:Bl W v l) (h2:Bl W u l) (hl:l.length<=1000000)=>(Ip W v u l l h1 h2 (by omega) (by omega)).mono (fun e w' ⟨p,q⟩=>(⟨by rw[p,decide_eq_true rfl],q⟩:e=Ending.returned (.bool true)/\Ext W w')));go_loopw [59] (fun nj wr=>∃k:Nat,k<=3/\nj= .int .i64 (k:Int)/\Ext w3 wr) (fun nj _=>3-(intOf nj).toNat)
 case atStart=>exact⟨0,by decide,rfl,Ext.refl w3⟩
 case round=>
  obtain⟨k,hk,rfl,hx⟩:=hrel;by_cases hlt:k<3
  ·have cx:decide ((k:Int)<3)=true:=decide_eq_true (by omega);have ba:decide (k<3)=true:=decide_eq_true hlt;have hw:IntKind.i64.wrap ((k:Int)+1)=(k:Int)+1:=IntWalk.i64_in _ (by omega);obtain⟨z,hz⟩:∃z,wr.cell? ⟨lb,k,none⟩=some (.int .i64 z):=by
    have hb:=aD.o.ext hx;rcases(show k=0\/k=1\/k=2 by omega) with rfl|rfl|rfl
    ·exact⟨_,hb.cell 0⟩
    ·exact⟨_,hb.cell 1⟩
    ·exact⟨_,hb.cell 2⟩
   have jt:=World.block_lt_of_cell? wr _ hz;have aF:=J (dL.o.keep hx);have cW:=J (KU _ g b wr ns nv aF.o.two.p ev env aF.o.ow.read cP.o.ok z);have pg:=J (fun W (hy:Ext wr W)=>Jk _ gr W ns _ (aF.o.keep hy).two.r ev env (aF.o.keep hy).ow.read cP.o.ok z);unfold DQ at cW pg;have HX:=J hx;clear hx;go_wp2_with fail;refine cW.o.mono ?_
   rintro e wa ⟨va,la,ca,rfl,ha1,ha2,jV,_,lq⟩;have HA:=J (And.intro ha1 (And.intro ha2 jV));have ax:=J lq;clear ha1 ha2 jV lq cW;go_wp2_with fail;refine(pg.o _ ax.o).mono ?_
   rintro e wb ⟨vb,lb',cb,rfl,aX,hb2,cV,_,gY⟩;obtain⟨rfl,rfl⟩:=HA.o.2.1.uniq hb2;have HB:=J (And.intro (HA.o.1.ext gY) (And.intro aX cV));have bS:=J (HX.o.trans (ax.o.trans gY));clear aX hb2 cV gY pg HA ax;go_wp2_with fail;refine(jw.o _ _ _ _ HB.o.1 HB.o.2.1 HB.o.2.2).mono ?_
   rintro e wc ⟨rfl,ul⟩;have UJ:=J (bS.o.trans ul);clear ul;go_wp2_with fail;go_roundw
   case rel=>exact⟨k+1,by omega,by go_num,UJ.o⟩
   case measure=>simp[intOf];omega
  ·obtain rfl:k=3:=by omega
   have cp:=J (dL.o.keep hx);clear hx dL aD hlt hk;obtain⟨s,ai⟩:∃s,str t= .string s:=⟨_,rfl⟩;have aF:=J ai;rw[ai];clear ai;go_wp2_with fail;have jT:=Blk.new wr 9 #[.string s,.string ⟨#[97]⟩,.string ⟨#[98]⟩,.string ⟨#[99]⟩,.string ⟨#[120,49]⟩,.string ⟨#[89,95,50]⟩];have hx5:=(Ext.refl wr).alloc (.cells #[.string s,.string ⟨#[97]⟩,.string ⟨#[98]⟩,.string ⟨#[99]⟩,.string ⟨#[120,49]⟩,.string ⟨#[89,95,50]⟩] 9);generalize wr.alloc (.cells #[.string s,.string ⟨#[97]⟩,.string ⟨#[98]⟩,.string ⟨#[99]⟩,.string ⟨#[120,49]⟩,.string ⟨#[89,95,50]⟩] 9)=w5 at *;generalize wr.heap.size=mb at *;have dP:=J jT;have bP:=J (cp.o.keep hx5);clear jT hx5 cp;go_loopw [90] (fun yt wr=>∃k:Nat,k<=6/\yt= .int .i64 (k:Int)/\Ext w5 wr) (fun yt _=>6-(intOf yt).toNat)
   case atStart=>exact⟨0,by decide,rfl,Ext.refl w5⟩
   case round=>
    obtain⟨k,hk,rfl,hx⟩:=hrel;by_cases hlt:k<6
    ·have cx:decide ((k:Int)<6)=true:=decide_eq_true (by omega);have ba:decide (k<6)=true:=decide_eq_true hlt;have hw:IntKind.i64.wrap ((k:Int)+1)=(k:Int)+1:=IntWalk.i64_in _ (by omega);obtain⟨x,q,hz,hq⟩:∃x q,wr.cell? ⟨mb,k,none⟩=some (.string q)/\str x= .string q:=by
      have hb:=dP.o.ext hx;rcases(show k=0\/k=1\/k=2\/k=3\/k=4\/k=5 by omega) with rfl|rfl|rfl|rfl|rfl|rfl
      ·exact⟨t,s,hb.cell 0,aF.o⟩
      ·exact⟨[97],_,hb.cell 1,rfl⟩
      ·exact⟨[98],_,hb.cell 2,rfl⟩
      ·exact⟨[99],_,hb.cell 3,rfl⟩
      ·exact⟨[120,49],_,hb.cell 4,rfl⟩
      ·exact⟨[89,95,50],_,hb.cell 5,rfl⟩
     have jt:=World.block_lt_of_cell? wr _ hz;have gR:=J (bP.o.keep hx);have Xg:Hid (env.length<=100000):=J (by have:=kf.o;omega);have cW:=J (Kv _ g b wr ns nv gR.o.two.p ev env gR.o.ow.read Xg.o x);have pg:=J (fun W (hy:Ext wr W)=>NB _ gr W ns _ (gR.o.keep hy).two.r ev env (gR.o.keep hy).ow.read Xg.o x);have sG:Hid ((CW ns env x).length<=1000000):=J (Nat.le_trans (Gz ns env x) (by have:=kf.o;omega));rw[hq]at cW pg;have HX:=J hx;clear hx hq;go_wp2_with fail;refine cW.o.mono ?_
     rintro e wa ⟨va,rfl,ha1,lq⟩;have HA:=J ha1;have ax:=J lq;clear ha1 lq cW;go_wp2_with fail;refine(pg.o _ ax.o).mono ?_
     rintro e wb ⟨vb,rfl,aX,gY⟩;have HB:=J (And.intro (HA.o.ext gY) aX);have bS:=J (HX.o.trans (ax.o.trans gY));clear aX gY pg HA ax;go_wp2_with fail;refine(jw.o _ _ _ _ HB.o.1.arr HB.o.2.arr sG.o).mono ?_
     rintro e wc ⟨rfl,ul⟩;have UJ:=J (bS.o.trans ul);clear ul;go_wp2_with fail;go_roundw
     case rel=>
      refine⟨_,_,_,_,_,_,_,_,_,_,_,_,_,_,_,_,_,?_,rfl⟩;exact⟨k+1,by omega,by go_num,UJ.o⟩
     case measure=>simp[intOf];omega
    ·have HF:=J (ah.o.trans (bP.o.keep hx).ex);obtain rfl:k=6:=by omega
     clear hx bP dP hlt hk;go_wp2_with fail;go_ret;exact⟨rfl,HF.o⟩
end Big
end Go.Proofs.YtkoaogkknnelaaaGreatDoor
namespace Go.Proofs.YtkoaogkknnelaaaGreatDoor
open Go.ChangeShapes Go.WideShapes Go.ChangeAt Go.RowKit
section
variable {H:Type} {enc:TypeId × Value->H} {P:Program}
theorem Gr(hl:laidOutB P=true){W W':World}(hb:Big.Ext W W'):∀(ts:List TypeId) (vs:List Value) (ds:List (DataW H)) (ps:List MemPlace),
  (∀t∈ts,P.readableRec t=true/\t<P.types.size)->DataW.TrodAll enc P W 0 (fun _=>true) true ts vs ds ps->(∀x∈ps,x.block<W.heap.size)->
  DataW.TrodAll enc P W' 0 (fun b=>decide (b<W.heap.size)) true ts vs ds ps
 |[],vs,ds,ps,_,h,_=>by
  obtain⟨rfl,rfl,rfl⟩:=trodAll_nil h;exact trodAll_mk0
 |t::ts,vs,ds,ps,ht,h,hlt=>by
  obtain⟨v,ub,d,Zx,p,q,rfl,rfl,rfl,h1,h2⟩:=trodAll_cons h;exact trodAll_cons_mk (Below.trod hl (ht t (by simp)).1 (ht t (by simp)).2 h1 hb (fun x hx=>hlt x (List.mem_append_left _ hx)))
   (Gr hl hb ts ub Zx q (fun t' h'=>ht t' (by simp[h'])) h2 (fun x hx=>hlt x (List.mem_append_right _ hx)))
theorem EW {f:Func} {s:ChangeSpec} {W W':World} {args:Array Value} {ds gs:List (DataW H)} {before:List MemPlace} {tb:TypeId} (hl:laidOutB P=true)
  (qw:(f.params.toList.all fun t=>P.readableRec t && decide (t<P.types.size))=true) (hv:s.vars=[]) (hr:f.resultTypes= #[tb]) (xF:P.underlying tb=some .bool)
  (hW:DataW.Whole enc P f.params.toList s.vars false W args.toList ds gs before) (hfn:s.fn H ds={ results:=[.lit (.bool true)],args:=ds }) (hb:Big.Ext W W'):
  s.post enc P f false true false false W args (.bool true) W':=by
 have hlt:=hW.lt;have hW':=hW;obtain⟨p,q,hA,hV,rfl,hfz,hnd⟩:=hW;rw[hv]at hV;obtain⟨rfl,rfl⟩:=trodVars_none hV;have nY:s.fn H (ds++[])={ results:=[.lit (.bool true)],args:=ds }:=by rw[List.append_nil];exact hfn
 refine⟨ds,[],p++[],[],p,[],hW',?_,?_,?_,hb.frame _,fun h=>by cases h⟩
 ·rw[nY,hr];exact trodAll_mk1 (shut_bool xF _)
 ·rw[nY];exact Gr hl hb _ _ _ _ (fun t ht=>by
   have:=List.all_eq_true.1 qw t ht
   simpa using this) hA (fun x hx=>hlt x (by simpa using hx))
 ·rw[nY,hv];rfl
end
theorem BY {H:Type} {enc:TypeId × Value->H} {a:Assume} {C:Checked} {os:Os} {f:FuncId} {fn:Func} {s:ChangeSpec} {qQ:List PathCond} {apart qP lI again:Bool} {X:World->Array Value->Prop}
  (hX:∀(w w':World) (args:Array Value),w.heap=w'.heap->X w args->X w' args)
  (own:ownKnob C.prog.godebug=none) (started:os.Started) (rn:C.prog.inits.idxOf? f=none) (hfn:C.prog.funcs[f]? =some fn)
  (pn:∃(w:World) (tape:Tape) (i:Input),w.os=os/\(w.forCall tape i).Shaped C.prog/\i.vars=[]/\Input.okWide C.prog (w.forCall tape i) .any w.heap.size f i/\
   ((s.pre enc C.prog fn qQ apart (w.forCall tape i).memory i.args/\X (w.forCall tape i).memory i.args)/\sizedMet enc C.prog fn (OpenSpec.ofChange s) apart (w.forCall tape i).memory i.args)/\a.holds C.prog (lone (Frame.enter C.prog f i.args .normal) [] (w.forCall tape i)))
  (ou:∀(W:World) (base:Nat) (args:Array Value) (ds gs:List (DataW H)) (before:List MemPlace),
   (∀(j:Nat) t v,fn.params[j]? =some t->args[j]? =some v->Value.okWide C.prog W .any base t v)->
   DataW.Whole enc C.prog fn.params.toList s.vars apart W args.toList ds gs before->
   (DataW.weightsEach C.prog (fn.params.toList++s.plain.varTypes C.prog) (ds++gs)).all (·<=reachBytes)=true->X W args->W.ShapedOpen C.prog->
   Calls C.prog f args W fun e W'=>∃v,e= .returned v/\s.post enc C.prog fn apart qP lI again W args v W'):
  ReturnsInHanded a C os f .any (fun w args=>(s.pre enc C.prog fn qQ apart w args/\X w args)/\sizedMet enc C.prog fn (OpenSpec.ofChange s) apart w args) (s.post enc C.prog fn apart qP lI again):=by
 refine returnsInHanded_of_calls own started rn pn ?_
 intro w tape i _ hsh _ av dH zE;obtain⟨_,_,_,Zv,nY,_,_,_,_,hval⟩:=av;have e:Zv=fn:=Option.some.inj (nY.symm.trans hfn);subst e;obtain⟨⟨⟨ds,gs,before,hw,hc⟩,hx⟩,hz⟩:=dH;have XV:=DataW.Whole.of_heap (w':=w.forCall tape i) (by rfl) hw;refine(ou (w.forCall tape i) w.heap.size i.args ds gs before hval XV (hz.weights hw) (hX _ _ _ (by rfl) hx) hsh).mono fun e W' ⟨v,he,hp⟩=> ?_
 subst he;exact ChangeSpec.post_blind hp
theorem FS:laidOutB Tryz.prog=true:=by kernel_rfl
theorem own:ownKnob Tryz.prog.godebug=none:=by kernel_rfl
section
variable {P:Program} {W:World}
end
section
variable {H:Type} {enc:TypeId × Value->H} {W:World} {fuel:Nat} {v:Value} {y:DataW H × List MemPlace}
end
section
variable {H:Type} {enc:TypeId × Value->H} {W:World} {v:Value} {d:DataW H} {p:List MemPlace} {r:Reach} {b0:Nat}
end
theorem Fc{s:ByteArray}(h:s.size<=maxLen):∃l:List UInt8,l.length<=maxLen/\s=⟨l.toArray⟩:=by
 refine⟨s.data.toList,by simpa using h,?_⟩;apply ByteArray.ext;simp
end Go.Proofs.YtkoaogkknnelaaaGreatDoor
namespace Go.Proofs.YtkoaogkknnelaaaGreatDoor
open Go.ChangeShapes Go.WideShapes Go.ChangeAt Go.RowKit
theorem M8:Tryz.prog.cellsOf 3=1:=by kernel_rfl
section
variable {H:Type} {enc:TypeId × Value->H} {W:World} {v:Value} {d:DataW H} {p:List MemPlace} {r:Reach} {b0:Nat}
theorem LC{fuel:Nat}{y:DataW H × List MemPlace}(h:DataW.trod enc Tryz.prog W 0 (fun _=>true) true fuel 41 [v]=some y):∃xs,Big.De W v xs:=by
 rcases open_ints Tryz.underlying41 Tryz.underlying3 M8 h with ⟨hv,_⟩|⟨a,len,cap,zs,hv,_,hl,hm,hz,_,hc,hw⟩
 ·injection hv with hv
  subst hv;exact⟨[],⟨(fun x hx=>by cases hx),Big.BS.none_ W⟩⟩
 ·injection hv with hv
  subst hv;simp only[if_true]at hz;refine⟨zs.take len,fun x hx=>bounds_i64 (hw x (List.mem_of_mem_take hx)),some a,cap,by simp;omega,by simp;omega,hm,fun hp=> ?_⟩;simp only[List.length_map,List.length_take]at hp;obtain⟨b,off,rfl,ac⟩:=ints_at hc (by omega);have h0:=ac 0 (by omega);refine⟨b,off,rfl,World.block_lt_of_cell? W _ h0,fun j u hj=> ?_⟩;rw[List.getElem?_map]at hj;have oZ:j<len:=by
   rcases Nat.lt_or_ge j len with h|h
   ·exact h
   ·rw[List.getElem?_eq_none (by simp;omega)]at hj;cases hj
  have qE:j<zs.length:=by omega
  rw[List.getElem?_take_of_lt oZ,List.getElem?_eq_getElem qE]at hj;injection hj with hj
  subst hj;rw[ac j (by omega)];have e1:zs.getD j 0=zs[j]:=by rw[List.getD_eq_getElem?_getD,List.getElem?_eq_getElem qE];rfl
  rw[e1];rfl
theorem Dh(hv:Value.okWide Tryz.prog W r b0 41 v)(h:DataW.Trod enc Tryz.prog W 0 (fun _=>true) true 41 v d p):∃xs,Big.De W v xs:=by
 obtain⟨a,len,cap,rfl⟩:=okWide_slice Tryz.underlying41 hv;obtain⟨fuel,hf⟩:=h;obtain⟨xs,hxs⟩:=LC (by simpa [Value.cells] using hf);exact⟨xs,hxs⟩
end
end Go.Proofs.YtkoaogkknnelaaaGreatDoor
namespace Go.Proofs.YtkoaogkknnelaaaGreatDoor
namespace Big
open Lib renaming hid → J
open Go.RowKit
theorem AG.cells{B n c:Nat}{w:World}{A:Option Addr}{env:Env}(h:AG B w (.slice A n c) env)(hp:0<env.length):∃g o,A=some ⟨g,o,none⟩/\g<w.heap.size/\∀i (hi:i<env.length),w.cell? ⟨g,o+i*2,none⟩=some (str env[i].1)/\w.cell? ⟨g,o+i*2+1,none⟩=some (.int .i64 env[i].2):=by
 obtain⟨A',c',he,hc⟩:=h.read;injection he with e1 e2 e3
 subst e1;clear e2 e3;obtain⟨g,o,hg,h1,h2⟩:=hc hp;exact⟨g,o,hg,h1,fun i hi=>⟨(h2 i hi).1,(h2 i hi).2⟩⟩
theorem RC{env:Env}{t:Tx}{k:Nat}(hk:k<env.length):DW (env.take (k+1)) t=DW (env.take k) t++if env[k].1<t then [env[k]] else []:=by
 unfold DW;rw[List.take_succ_eq_append_getElem hk,List.filter_append,List.filter_cons,List.filter_nil];by_cases h:env[k].1<t<;>simp[h]
theorem Qm{env:Env}{t:Tx}{k:Nat}(hk:k<env.length):Dk (env.take (k+1)) t=Dk (env.take k) t++if t<env[k].1 then [env[k]] else []:=by
 unfold Dk;rw[List.take_succ_eq_append_getElem hk,List.filter_append,List.filter_cons,List.filter_nil];by_cases h:t<env[k].1<;>simp[h]
theorem IW(env:Env)(t:Tx):(DW env t).length<=env.length:=List.length_filter_le _ _
theorem RL(env:Env)(t:Tx):(Dk env t).length<=env.length:=List.length_filter_le _ _
theorem KV{ns:List Nd}{env:Env}(h:Ct ns env)(t:Tx):Tz (Dt env t) (fun x=>if x=t then none else BW env x):=by
 intro x;rw[Fl];by_cases hx:x=t
 ·simp[hx]
 ·simp only[if_neg hx];exact h.map x
theorem Th{env:Env}(h:TxE env){t:Tx}{z:Int}(ht:t.length<=1000)(hz:0<=z/\z<=100000):TxE (Dy env t z):=by
 intro b hb;rcases F8.1 hb with rfl|hb
 ·exact JV (env:=[]) (fun b hb=>by cases hb) ht hz (t,z) (by simp)
 ·exact h b hb.1
theorem Sr{a b:Tx}(h:a<b):¬b<a:=fun h'=>Bt _ (Ep h h')
theorem Td{a b:Tx}(h:¬a<b):b<a\/b=a:=by
 by_cases e:b=a
 ·exact .inr e
 ·rcases No e with h1|h1
  ·exact .inl h1
  ·exact absurd h1 h
theorem To(r:Nat)(h:r<6):∃t q,Cs t=true/\t.length<=3/\str t= .string q/\∀W b,Blk W b 9 #[.string ⟨#[97]⟩,.string ⟨#[98]⟩,.string ⟨#[99]⟩,.string ⟨#[120,49]⟩,.string ⟨#[89,95,50]⟩,.string ⟨#[110,101,119]⟩]->W.cell? ⟨b,r,none⟩=some (.string q):=by
 rcases(show r=0\/r=1\/r=2\/r=3\/r=4\/r=5 by omega) with rfl|rfl|rfl|rfl|rfl|rfl
 ·exact⟨[97],_,by decide,by decide,rfl,fun W b h=>h.cell 0⟩
 ·exact⟨[98],_,by decide,by decide,rfl,fun W b h=>h.cell 1⟩
 ·exact⟨[99],_,by decide,by decide,rfl,fun W b h=>h.cell 2⟩
 ·exact⟨[120,49],_,by decide,by decide,rfl,fun W b h=>h.cell 3⟩
 ·exact⟨[89,95,50],_,by decide,by decide,rfl,fun W b h=>h.cell 4⟩
 ·exact⟨[110,101,119],_,by decide,by decide,rfl,fun W b h=>h.cell 5⟩
theorem Hg(w:World)(v u:Value)(l m:List Int)(id iU:Int)(hi: -9223372036854775808<=id/\id<=9223372036854775807)(hj: -9223372036854775808<=iU/\iU<=9223372036854775807)(h:De w v l)(h':De w u m)(hm:BC w):
  Calls Tryz.prog 9 #[v,u,.int .i64 id,.int .i64 iU] w fun e w'=>e= .returned (.bool true)/\Ext w w':=by
 have gK:=J (DZ w hm);have HM:=J hm;have HL:=J h;have cj:=J h';have aW:=J (fun W hx=>Di W v l (HL.o.ext hx));have ch:=J (fun W hx=>Di W u m (cj.o.ext hx));obtain⟨A0,c0,rfl,_⟩:=h.open;obtain⟨A9,c9,rfl,_⟩:=h'.open;clear h h' hm;by_cases hlt:120<l.length
 ·have hd:decide (l.length<=120)=false:=decide_eq_false (by omega);rw[hd]at aW;clear HL cj hlt hd;go_enter Tryz.func9,Tryz.ntmps9;go_wp2_with fail;refine gK.o.mono ?_
  rintro e w1 ⟨rfl,am⟩;have ah:=J am;clear am;go_wp2_with fail;refine(aW.o _ ah.o).mono ?_
  rintro e w2 ⟨rfl,rfl⟩;go_wp2_with fail;go_ret;exact⟨rfl,ah.o⟩
 have hd:decide (l.length<=120)=true:=decide_eq_true (by omega);rw[hd]at aW;have fG:l.length<=120:=by omega
 clear hlt hd;by_cases hlt2:120<m.length
 ·have hd:decide (m.length<=120)=false:=decide_eq_false (by omega);rw[hd]at ch;clear HL cj hlt2 hd;go_enter Tryz.func9,Tryz.ntmps9;go_wp2_with fail;refine gK.o.mono ?_
  rintro e w1 ⟨rfl,am⟩;have ah:=J am;clear am;go_wp2_with fail;refine(aW.o _ ah.o).mono ?_
  rintro e w2 ⟨rfl,rfl⟩;go_wp2_with fail;refine(ch.o _ ah.o).mono ?_
  rintro e w2 ⟨rfl,rfl⟩;go_wp2_with fail;go_ret;exact⟨rfl,ah.o⟩
 have hd:decide (m.length<=120)=true:=decide_eq_true (by omega);rw[hd]at ch;have jd:m.length<=120:=by omega
 clear hlt2 hd;go_enter Tryz.func9,Tryz.ntmps9;go_wp2_with fail;refine gK.o.mono ?_
 rintro e w1 ⟨rfl,am⟩;have ah:=J am;clear am;go_wp2_with fail;refine(aW.o _ ah.o).mono ?_
 rintro e w2 ⟨rfl,rfl⟩;go_wp2_with fail;refine(ch.o _ ah.o).mono ?_
 rintro e w2 ⟨rfl,rfl⟩;have bx:=J (FF w1 _ _ l m (HL.o.ext ah.o) (cj.o.ext ah.o) (by omega) (by omega) (HM.o.ext ah.o));unfold Snd at bx;clear aW ch HL cj gK fG jd;go_wp2_with fail;refine bx.o.mono ?_
 rintro e w2 ⟨g,b,gr,ns,nv,rv,ev,env,d,rfl,hs,fx,mm,cd,hd⟩;clear bx;cases d
 ·have aq:=J (ah.o.trans hs.ex);clear hs fx mm cd hd;go_wp2_with fail;go_ret;exact⟨rfl,aq.o⟩
 have cP:=J (hd.1 rfl);have HS:=J hs;have eD:=J cd;have kf:=J mm;clear hd hs mm cd;obtain⟨AR,cR,e7⟩:=HS.o.two.r.row.shape;subst e7;obtain⟨k0,f0,fA⟩:=HS.o.two.r.blk.oneG;obtain⟨Ae,ce,nZ⟩:=HS.o.ow.shape;obtain⟨me,hme⟩:∃me,env.length=me:=⟨_,rfl⟩;rw[hme]at nZ;subst nZ;have dB:=J hme;obtain⟨n,hn⟩:∃n,ns.length=n:=⟨_,rfl⟩;rw[hn]at k0;have HN:=J hn;rw[hn]at fx HS;clear hme hn;by_cases hn0:n=0
 ·subst hn0;have aq:=J (ah.o.trans HS.o.ex);go_wp2_with fail;go_ret;exact⟨rfl,aq.o⟩
 have V5:((n:Int) == 0)=false:=beq_eq_false_iff_ne.2 (by omega);have uW:(n == 0)=false:=beq_eq_false_iff_ne.2 hn0;have pi:=J (fun W=>Gb W id (n:Int) hi.1 hi.2 (by omega) (by omega));have ng:=J (fun W=>Gb W iU 6 hj.1 hj.2 (by decide) (by decide));obtain⟨i,fz⟩:∃i:Nat,id % (n:Int)=(i:Int):=⟨(id % (n:Int)).toNat,by have:=Int.emod_nonneg id (show (n:Int)≠0 by omega);omega⟩;have hin:i<n:=by have:=Int.emod_lt_of_pos id (show 0<(n:Int) by omega);omega
 rw[fz]at pi;obtain⟨r,hr⟩:∃r:Nat,iU % 6=(r:Int):=⟨(iU % 6).toNat,by omega⟩;have gl:r<6:=by omega
 rw[hr]at ng;clear fz hr hi hj;obtain⟨t,q,oW,gj,ai,ac⟩:=To r gl;have qc:=J oW;have mZ:=J gj;have aF:=J ai;have i6:=J ac;clear oW gj ac;have xx:=J (fun W (hx:Ext w2 W)=>JY _ g b W ns nv (HS.o.keep hx).two.p _ env (HS.o.keep hx).ow.read (by rw[dB.o];have:=kf.o;rw[dB.o]at this;omega) eD.o t (by have:=mZ.o;omega) (i:Int));have wR:=J (fun W (hx:Ext w2 W)=>Ml _ gr W ns _ (HS.o.keep hx).two.r _ env (HS.o.keep hx).ow.read (by rw[dB.o];have:=kf.o;rw[dB.o]at this;omega) t (i:Int));rw[ai]at xx wR;clear ai;go_wp2_with fail;refine(pi.o _).mono ?_
 rintro e w3 ⟨rfl,rfl⟩;clear pi k0 f0 fA V5 uW;go_wp2_with fail;have cV:=Blk.new w2 9 #[.string ⟨#[97]⟩,.string ⟨#[98]⟩,.string ⟨#[99]⟩,.string ⟨#[120,49]⟩,.string ⟨#[89,95,50]⟩,.string ⟨#[110,101,119]⟩];have ae:=(Ext.refl w2).alloc (.cells #[.string ⟨#[97]⟩,.string ⟨#[98]⟩,.string ⟨#[99]⟩,.string ⟨#[120,49]⟩,.string ⟨#[89,95,50]⟩,.string ⟨#[110,101,119]⟩] 9);generalize w2.alloc (.cells #[.string ⟨#[97]⟩,.string ⟨#[98]⟩,.string ⟨#[99]⟩,.string ⟨#[120,49]⟩,.string ⟨#[89,95,50]⟩,.string ⟨#[110,101,119]⟩] 9)=w3 at *;generalize w2.heap.size=tb at *;have dg:=i6.o _ _ cV;have aB:=World.block_lt_of_cell? w3 _ dg;have aj:=J ae;clear cV ae i6;have e9:(0:Int)<=(r:Int):=by omega
 have X9:(r:Int)<6:=by omega
 refine(ng.o _).mono ?_
 rintro e w4 ⟨rfl,rfl⟩;clear ng;go_wp2_with fail;refine(xx.o _ aj.o).mono ?_
 rintro e w4 ⟨d1,rfl,cx,aR⟩;have aE:=J (aj.o.trans aR);have js:=J cx;clear cx aR xx dg aB aj;go_wp2_with fail;refine(wR.o _ aE.o).mono ?_
 rintro e w5 ⟨d2,rfl,ba,hx5⟩;have bP:=J (HS.o.keep (aE.o.trans hx5));have lX:Hid (d1=true↔AA ns (Dt env t) (AB ns i) t):=J (by
  rw[js.o,Jm (KV cP.o.ok t)];exact GA (by omega) (by rw[HN.o];omega) t)
 obtain rfl:d1=d2:=by
  rw[Bool.eq_iff_iff,js.o,ba,Jm (KV cP.o.ok t)];exact Iff.rfl
 clear ba hx5 wR aE js HS;have qI:(d1 != d1)=false:=by cases d1<;>rfl
 go_wp2_with fail;go_loopw [15,79] (fun s15 yu wr=>∃k:Nat,k<=me/\yu= .int .i64 (k:Int)/\AG w5.heap.size wr s15 (DW (env.take k) t)/\Ext w5 wr) (fun _ yu _=>me-(intOf yu).toNat)
 case atStart=>exact⟨0,Nat.zero_le _,rfl,AG.nil _ _,Ext.refl w5⟩
 case round=>
  obtain⟨k,hk,rfl,ho,hx⟩:=hrel;by_cases hlt:k<me
  ·have bB:k<env.length:=by rw[dB.o];exact hlt
   have cx:decide ((k:Int)<(me:Int))=true:=decide_eq_true (by omega);have ba:decide (k<me)=true:=decide_eq_true hlt;have hw:IntKind.i64.wrap ((k:Int)+1)=(k:Int)+1:=IntWalk.i64_in _ (by have:=kf.o;rw[dB.o]at this;omega);obtain⟨ge,oe,rfl,dU,hc⟩:=AG.cells (bP.o.keep hx).ow (by omega);obtain⟨p0,p1⟩:=hc k bB;have eG:=J (RC (t:=t) bB);have eW:Hid ((DW (env.take k) t).length<=20):=J (by
    have q1:=IW (env.take k) t;have q2:=IW env t;have q3:=kf.o;rw[List.length_take]at q1
    (try simp only[List.length_append,List.length_singleton])
    omega)
   have HX:=J hx;have HO:=J ho;have fy:(0:Int)<=(k:Int):=by omega
   clear hc hx ho;generalize env[k]=y at *;clear bB;obtain⟨x,z⟩:=y;simp only at p0 p1 eG;obtain⟨s,hs⟩:∃s:ByteArray,str x= .string s:=⟨_,rfl⟩;rw[hs]at p0;have i2:=J hs;have nN:=G5 i2.o aF.o;clear hs;go_upto_region 19 with fail;have bq:=(Ext.refl wr).alloc (.cells #[.string s,.int .i64 z] 62);have dx:=Blk.new wr 62 #[.string s,.int .i64 z];generalize wr.alloc (.cells #[.string s,.int .i64 z] 62)=w7 at *;generalize wr.heap.size=nb at *;have ay:=J (HX.o.trans bq);have eP:=J (HO.o.ext bq);obtain⟨b0,b1⟩:=dx.twoB;have hnb:=dx.lt;clear dx bq p0 p1 dU HX HO;by_cases hxt:x<t
   ·rw[decide_eq_true hxt]at nN;have ee:=J (eG.o.trans (by rw[if_pos hxt]:_=DW (env.take k) t++[(x,z)]));have bC:Hid (∀j q,(Dn [(x,z)])[j]? =some q->(w7.alloc (.cells #[.string s,.int .i64 z] 62)).cell? ((⟨w7.heap.size,0,none⟩:Addr).add j)=some q):=J (by
     rw[EA];unfold bdC;rw[i2.o];exact Bw w7 62 [.string s,.int .i64 z])
    have lN:=J (eP.o.ext ((Ext.refl w7).alloc (.cells #[.string s,.int .i64 z] 62)));have dN:Hid ((DW (env.take k) t).length+([(x,z)]:Env).length<=1000000):=J (by have:=eW.o;rw[List.length_singleton];omega);have ax:=J (ay.o.alloc (.cells #[.string s,.int .i64 z] 62));have jx:=J ax.o.size;clear hxt;go_wp2_with (at_builtin;go_must (refine BO (B:=w5.heap.size) (xs:=DW (env.take k) t) (ys:=[(x,z)]) rfl _ _ rfl rfl lN.o ⟨w7.heap.size,0,none⟩ 1 rfl bC.o dN.o jx.o ?_;intro v' w' aA al jk));have iT:=J (And.intro aA (ax.o.more jk));clear aA al jk;go_roundw
    case rel=>exact⟨k+1,by omega,by go_num,by rw[ee.o];exact iT.o.1,iT.o.2⟩
    case measure=>simp[intOf];omega
   ·rw[decide_eq_false hxt]at nN;have ee:=J (eG.o.trans (by rw[if_neg hxt,List.append_nil]:_=DW (env.take k) t))
    skip
    all_goals
     (try clear hxt)
     go_wp2_with fail;go_roundw
     case rel=>exact⟨k+1,by omega,by go_num,by rw[ee.o];exact eP.o,ay.o⟩
     case measure=>simp[intOf];omega
  ·obtain rfl:me=k:=by omega
   have HX:=J hx;have HO:Hid (AG w5.heap.size wr _ (DW env t)):=J (by
    have h:=ho;rw[List.take_of_length_le (by rw[dB.o];exact Nat.le_refl _)]at h;exact h)
   clear hx ho hlt hk;have bC:Hid (∀j u,(Dn [(t,(i:Int))])[j]? =some u->(wr.alloc (.cells #[.string q,.int .i64 (i:Int)] 62)).cell? ((⟨wr.heap.size,0,none⟩:Addr).add j)=some u):=J (by
    rw[EA];unfold bdC;rw[aF.o];exact Bw wr 62 [.string q,.int .i64 (i:Int)])
   have lN:=J (HO.o.ext ((Ext.refl wr).alloc (.cells #[.string q,.int .i64 (i:Int)] 62)));have dN:Hid ((DW env t).length+([(t,(i:Int))]:Env).length<=1000000):=J (by
    have q2:=IW env t;have q3:=kf.o;rw[List.length_singleton];omega)
   have ax:=J (HX.o.alloc (.cells #[.string q,.int .i64 (i:Int)] 62));have jx:=J ax.o.size;clear HX HO;go_wp2_with (at_builtin;go_must (refine BO (B:=w5.heap.size) (xs:=DW env t) (ys:=[(t,(i:Int))]) rfl _ _ rfl rfl lN.o ⟨wr.heap.size,0,none⟩ 1 rfl bC.o dN.o jx.o ?_;intro v6 w6 aA al jk));have dj:=J aA;have aO:=J (ax.o.more jk);clear aA al jk bC lN dN ax jx;go_loopw [15,100] (fun s15 rj wr=>∃k:Nat,k<=me/\rj= .int .i64 (k:Int)/\AG w5.heap.size wr s15 (DW env t++[(t,(i:Int))]++Dk (env.take k) t)/\Ext w5 wr) (fun _ rj _=>me-(intOf rj).toNat)
   case atStart=>exact⟨0,Nat.zero_le _,rfl,by rw[show Dk (env.take 0) t=[] from rfl,List.append_nil];exact dj.o,aO.o⟩
   case round=>
    obtain⟨k,hk,rfl,ho,hx⟩:=hrel;by_cases hlt:k<me
    ·have bB:k<env.length:=by rw[dB.o];exact hlt
     have cx:decide ((k:Int)<(me:Int))=true:=decide_eq_true (by omega);have ba:decide (k<me)=true:=decide_eq_true hlt;have hw:IntKind.i64.wrap ((k:Int)+1)=(k:Int)+1:=IntWalk.i64_in _ (by have:=kf.o;rw[dB.o]at this;omega);obtain⟨ge,oe,rfl,dU,hc⟩:=AG.cells (bP.o.keep hx).ow (by omega);obtain⟨p0,p1⟩:=hc k bB;have eG:=J (Qm (t:=t) bB);have eW:Hid ((DW env t++[(t,(i:Int))]++Dk (env.take k) t).length<=20):=J (by
      have q1:=RL (env.take k) t;have q2:=IW env t;have q3:=kf.o;rw[List.length_take]at q1
      (try simp only[List.length_append,List.length_singleton])
      omega)
     have HX:=J hx;have HO:=J ho;have fy:(0:Int)<=(k:Int):=by omega
     clear hc hx ho;generalize env[k]=y at *;clear bB;obtain⟨x,z⟩:=y;simp only at p0 p1 eG;obtain⟨s,hs⟩:∃s:ByteArray,str x= .string s:=⟨_,rfl⟩;rw[hs]at p0;have i2:=J hs;have nN:=G5 i2.o aF.o;have Wo:=I7 i2.o aF.o;clear hs;go_upto_region 26 with fail;have bq:=(Ext.refl wr).alloc (.cells #[.string s,.int .i64 z] 62);have dx:=Blk.new wr 62 #[.string s,.int .i64 z];generalize wr.alloc (.cells #[.string s,.int .i64 z] 62)=w7 at *;generalize wr.heap.size=nb at *;have ay:=J (HX.o.trans bq);have eP:=J (HO.o.ext bq);obtain⟨b0,b1⟩:=dx.twoB;have hnb:=dx.lt;clear dx bq p0 p1 dU HX HO;by_cases hxt:t<x
     ·rw[decide_eq_false (Sr hxt)]at nN;rw[decide_eq_false (fun e=>by subst e;exact Bt _ hxt)]at Wo;have ee:=J (eG.o.trans (by rw[if_pos hxt]:_=Dk (env.take k) t++[(x,z)]));have bC:Hid (∀j q,(Dn [(x,z)])[j]? =some q->(w7.alloc (.cells #[.string s,.int .i64 z] 62)).cell? ((⟨w7.heap.size,0,none⟩:Addr).add j)=some q):=J (by
       rw[EA];unfold bdC;rw[i2.o];exact Bw w7 62 [.string s,.int .i64 z])
      have lN:=J (eP.o.ext ((Ext.refl w7).alloc (.cells #[.string s,.int .i64 z] 62)));have dN:Hid ((DW env t++[(t,(i:Int))]++Dk (env.take k) t).length+([(x,z)]:Env).length<=1000000):=J (by have:=eW.o;rw[List.length_singleton];omega);have ax:=J (ay.o.alloc (.cells #[.string s,.int .i64 z] 62));have jx:=J ax.o.size;clear hxt;go_wp2_with (at_builtin;go_must (refine BO (B:=w5.heap.size) (xs:=DW env t++[(t,(i:Int))]++Dk (env.take k) t) (ys:=[(x,z)]) rfl _ _ rfl rfl lN.o ⟨w7.heap.size,0,none⟩ 1 rfl bC.o dN.o jx.o ?_;intro v' w' aA al jk));have iT:=J (And.intro aA (ax.o.more jk));clear aA al jk;go_roundw
      case rel=>exact⟨k+1,by omega,by go_num,by rw[ee.o,<-List.append_assoc];exact iT.o.1,iT.o.2⟩
      case measure=>simp[intOf];omega
     ·skip
      have ee:=J (eG.o.trans (by rw[if_neg hxt,List.append_nil]:_=Dk (env.take k) t));rcases Td hxt with hq|hq
      all_goals (first|rw[decide_eq_true hq]at nN|rw[decide_eq_true hq]at Wo)
      all_goals
       (try clear hxt)
       go_wp2_with fail;go_roundw
       case rel=>exact⟨k+1,by omega,by go_num,by rw[ee.o];exact eP.o,ay.o⟩
       case measure=>simp[intOf];omega
    ·obtain rfl:me=k:=by omega
     have HX:=J hx;have HO:Hid (AG w5.heap.size wr _ (DW env t++[(t,(i:Int))]++Dk env t)):=J (by
      have h:=ho;rw[List.take_of_length_le (by rw[dB.o];exact Nat.le_refl _)]at h;exact h)
     clear hx ho hlt hk;clear dj aO;have bF:Hid ((Dy env t (i:Int)).length<=10):=J (by
      have:=OU env t (i:Int);have:=kf.o;omega)
     have ph:Hid (AG w5.heap.size wr _ (Dy env t (i:Int))):=J HO.o;have UO:=J (Th eD.o (t:=t) (z:=(i:Int)) (by have:=mZ.o;omega) (by omega));have bG:=J (Cv _ gr wr ns _ (bP.o.keep HX.o).two.r (i:Int));unfold CQ at bG;clear HO;go_wp2_with fail;refine bG.o.mono ?_
     rintro e w8 ⟨vn,ln,rfl,vS,eu,zr,bI⟩;have bV:=J (HX.o.trans bI);have my:=J (ph.o.ext bI);have U5:Hid (∀x,x∈ln↔AB ns i x):=J (by
      unfold AQ at eu;rw[if_pos ⟨by omega,by rw[HN.o];omega⟩]at eu;exact eu.2)
     obtain⟨An,cn,rfl,_,_,pb⟩:=vS.open;obtain⟨nn,bh⟩:∃nn,ln.length=nn:=⟨_,rfl⟩;have dn:=J (fun W (hy:Ext w8 W) x=>DS W _ (Dy env t (i:Int)) (my.o.ext hy).read (by have:=bF.o;omega) x);have kG:=J bh;have xy:=J pb;rw[bh]at zr ⊢;clear vS eu bI bh pb bG ph HX;generalize hP:Dy env t (i:Int)=nx at *;have W6:=J hP;clear hP;go_wp2_with fail;go_loopw [20,117] (fun s20 s117 wr=>∃(k:Nat) (bd:Bool),k<=nn/\s117= .int .i64 (k:Int)/\s20= .bool bd/\(bd=true↔∀x∈ln.take k,0<=Ao nx x)/\Ext w8 wr) (fun _ s117 _=>nn-(intOf s117).toNat)
     case atStart=>exact⟨0,true,Nat.zero_le _,rfl,rfl,⟨fun _ x hx=>by simp at hx,fun _=>rfl⟩,Ext.refl w8⟩
     case round=>
      obtain⟨k,bd,hk,rfl,rfl,hbd,hx⟩:=hrel;by_cases hlt:k<nn
      ·have bB:k<ln.length:=by rw[kG.o];exact hlt
       have cx:decide ((k:Int)<(nn:Int))=true:=decide_eq_true (by omega);have ba:decide (k<nn)=true:=decide_eq_true hlt;have hw:IntKind.i64.wrap ((k:Int)+1)=(k:Int)+1:=IntWalk.i64_in _ (by omega);obtain⟨gn,on,rfl,vv,hc⟩:=xy.o (by omega);have p0:=hc k bB;rw[<-hx.cell vv]at p0;have YL:gn<wr.heap.size:=Nat.lt_of_lt_of_le vv hx.size;have eG:Hid ((∀x∈ln.take (k+1),0<=Ao nx x)↔(∀x∈ln.take k,0<=Ao nx x)/\0<=Ao nx ln[k]):=J (by
        rw[List.take_succ_eq_append_getElem bB];constructor
        ·exact fun h=>⟨fun x hx=>h x (List.mem_append_left _ hx),h _ (List.mem_append_right _ (List.mem_singleton_self _))⟩
        ·rintro⟨h1,h2⟩ x hx;rcases List.mem_append.1 hx with hx|hx
         ·exact h1 x hx
         ·rw[List.mem_singleton]at hx;subst hx;exact h2)
       have HB:=J hbd;have HX:=J hx;have fy:(0:Int)<=(k:Int):=by omega
       clear hc vv hx hbd;generalize ln[k]=y at *;clear bB;have HF:=J (dn.o wr HX.o y);obtain⟨s,hs⟩:∃s:ByteArray,str y= .string s:=⟨_,rfl⟩;rw[hs]at p0 HF;clear hs;generalize Ao nx y=f at *;cases bd
       ·go_wp2_with fail;go_roundw
        case rel=>exact⟨k+1,false,by omega,by go_num,rfl,⟨(fun h=>by cases h),fun h=>HB.o.2 (eG.o.1 h).1⟩,HX.o⟩
        case measure=>simp[intOf];omega
       ·have aP:=J (HB.o.1 rfl);go_wp2_with fail;refine HF.o.mono ?_
        rintro e w9 ⟨rfl,iV⟩;have dz:=J (HX.o.trans iV);clear iV HF;by_cases hf:0<=f
        ·have eC:decide (f>=0)=true:=decide_eq_true hf;have o7:decide (0<=f)=true:=decide_eq_true hf;go_wp2_with fail;go_roundw
         case rel=>exact⟨k+1,true,by omega,by go_num,rfl,⟨fun _=>eG.o.2 ⟨aP.o,hf⟩,fun _=>rfl⟩,dz.o⟩
         case measure=>simp[intOf];omega
        ·have eC:decide (f>=0)=false:=decide_eq_false hf;have o7:decide (0<=f)=false:=decide_eq_false hf;go_wp2_with fail;go_roundw
         case rel=>exact⟨k+1,false,by omega,by go_num,rfl,⟨(fun h=>by cases h),fun h=>by have:=(eG.o.1 h).2;omega⟩,dz.o⟩
         case measure=>simp[intOf];omega
      ·obtain rfl:nn=k:=by omega
       have HX:=J (bV.o.trans hx);have wZ:=J (my.o.ext hx);rw[List.take_of_length_le (by rw[kG.o];exact Nat.le_refl _)]at hbd;have HQ:Hid (AO ns nx↔bd=true/\¬d1=true):=J (by
        rw[<-W6.o,Rk cP.o (by have:=kf.o;omega) qc.o (by rw[HN.o];exact hin),W6.o,lX.o,hbd];constructor
        ·exact fun h=>⟨fun x hx=>h.1 x ((U5.o x).1 hx),h.2⟩
        ·exact fun h=>⟨fun x hx=>h.1 x ((U5.o x).2 hx),h.2⟩)
       have jX:=J (Df _ g b wr ns nv (bP.o.keep HX.o).two.p _ nx wZ.o.read (by have:=bF.o;omega) UO.o);unfold Cp at jX;clear hx hbd hlt hk;go_wp2_with fail;refine jX.o.mono ?_
       rintro e de ⟨d,rfl,hd,cX⟩;have HF:=J (ah.o.trans ((bP.o.keep HX.o).ex.trans cX));obtain rfl:d=(bd && !d1):=by
        rw[Bool.eq_iff_iff,hd,HQ.o,Bool.and_eq_true,Bool.not_eq_true',Bool.not_eq_true]
       clear hd cX HQ jX;cases bd<;>cases d1<;>(go_wp2_with fail;go_ret;exact⟨rfl,HF.o⟩)
end Big
end Go.Proofs.YtkoaogkknnelaaaGreatDoor
