import Derived.Test.YtkoaogkknnelaaaGreatDoorM32
import Derived.Test.YtkoaogkknnelaaaGreatDoorShelf4
set_option linter.unusedVariables false
set_option linter.unusedSimpArgs false
set_option maxHeartbeats 8000000
set_option maxRecDepth 100000
namespace Go.Proofs.YtkoaogkknnelaaaGreatDoor
namespace Big
open Lib renaming hid → J
open Go.RowKit
theorem TV(w:World)(a b:Nat)(t:Tx)(P:Value)(m:Nat)(T:List X2)(hat:Ua w P m T)(ha:a<m)(hb:b<m)(X Y:X2)(hX:T.getD a X2.O=X)(hY:T.getD b X2.O=Y)(sj:X.Ok)(gS:Y.Ok):
  Calls Tryz.prog 139 #[ndV ⟨9,(a:Int),(b:Int),0,t⟩,.func (.func 140) #[] #[P]] w (C3 (Bj ⟨9,(a:Int),(b:Int),0,t⟩ X Y) w):=by
 have ji:∀W,Ext w W->∀j,j<m->Calls Tryz.prog 140 #[.int .i64 (j:Int),P] W fun e w'=>∃v',e= .returned v'/\BO w' v' (T.getD j X2.O)/\Ext W w':=hat
 have gy:=J (fun W hx j (hj:j=a)=>by have h:=ji W hx a ha;rw[hX]at h;exact h);have kc:=J (fun W hx j (hj:j=b)=>by have h:=ji W hx b hb;rw[hY]at h;exact h);obtain⟨t',hst⟩:∃s:ByteArray,str t= .string s:=⟨_,rfl⟩;have aS:=J (fun W vx vy p q r s hx (lx:Low p q) px qx hy (ly:Low r s) py qy (pG:r≠0)=>ED W 9 (a:Int) (b:Int) 0 t (by decide) (by decide) (by decide) (fun _=>rfl) vx vy p q r s hx lx px qx hy ly py qy (fun _=>pG));unfold C3;unfold LU at aS;simp only[ndV]at aS ⊢;rw[hst]at aS ⊢;clear hat ji hX hY hst;go_enter Tryz.func139,Tryz.ntmps139
 go_upto_block 0 with fail
 have HB:=J (Fd4.made w #[.int .i64 9,.int .i64 (a:Int),.int .i64 (b:Int),.int .i64 0,.string t'] #[.bool false,.slice none 0 0,.slice none 0 0,.int .i64 0] #[.bool false,.slice none 0 0,.slice none 0 0,.int .i64 0] #[.bool false,.slice none 0 0,.slice none 0 0,.int .i64 0]);have HX:=J (((((Ext.refl w).alloc (.cells #[.int .i64 9,.int .i64 (a:Int),.int .i64 (b:Int),.int .i64 0,.string t'] 95)).alloc (.cells #[.bool false,.slice none 0 0,.slice none 0 0,.int .i64 0] 136)).alloc (.cells #[.bool false,.slice none 0 0,.slice none 0 0,.int .i64 0] 136)).alloc (.cells #[.bool false,.slice none 0 0,.slice none 0 0,.int .i64 0] 136));generalize (((w.alloc (.cells #[.int .i64 9,.int .i64 (a:Int),.int .i64 (b:Int),.int .i64 0,.string t'] 95)).alloc (.cells #[.bool false,.slice none 0 0,.slice none 0 0,.int .i64 0] 136)).alloc (.cells #[.bool false,.slice none 0 0,.slice none 0 0,.int .i64 0] 136)).alloc (.cells #[.bool false,.slice none 0 0,.slice none 0 0,.int .i64 0] 136)=wo at *;have ao:=HB.o.cells
 go_cut [] from 11 to 48 (fun wx=>∃(f1:Bool) (G1:Option Addr) (g1 j1:Nat) (Y1:Option Addr) (y1 z1:Nat) (f2:Bool) (G2:Option Addr) (g2 j2:Nat) (Y2:Option Addr) (y2 z2:Nat),Fd4 w.heap.size wx #[.int .i64 9,.int .i64 (a:Int),.int .i64 (b:Int),.int .i64 0,.string t'] #[.bool false,.slice none 0 0,.slice none 0 0,.int .i64 0] #[.bool f1,.slice G1 g1 j1,.slice Y1 y1 z1,.int .i64 (X.st:Int)] #[.bool f2,.slice G2 g2 j2,.slice Y2 y2 z2,.int .i64 (Y.st:Int)]/\BO wx (.agg #[.bool f1,.slice G1 g1 j1,.slice Y1 y1 z1,.int .i64 (X.st:Int)]) X/\BO wx (.agg #[.bool f2,.slice G2 g2 j2,.slice Y2 y2 z2,.int .i64 (Y.st:Int)]) Y/\Ext w wx)
 case first=>
  go_upto_region 16 with fail
  go_region_law (first
   |(go_simp;go_at_call 140;refine(gy.o _ HX.o.drew a rfl).mono ?_;rintro e w1 ⟨v1,rfl,ac,hx⟩;clear ao;obtain⟨f1,G1,g1,j1,Y1,y1,z1,rfl⟩:=ac.shape;have R1:=J ac;clear ac;have HB:=J (HB.o.ext ((Ext.refl _).drew.trans hx));have au:=J (HX.o.drew.trans hx);have ao:=HB.o.cells;clear hx)
   |(go_simp;go_at_call 140;refine(kc.o _ au.o b rfl).mono ?_;rintro e w2 ⟨v2,rfl,hr2,hx⟩;clear ao;obtain⟨f2,G2,g2,j2,Y2,y2,z2,rfl⟩:=hr2.shape;have R2:=J hr2;clear hr2;have hto:=True.intro;have HB:=J (HB.o.ext hx);have R1:=J (R1.o.ext hx);have aR:=J (au.o.trans hx);have ao:=HB.o.cells;clear hx)
   |(go_simp;go_at_call 140;refine(kc.o _ (au.o.four (g:=w.heap.size+2) (qaO _ _) (.bool f1) (.slice G1 g1 j1) (.slice Y1 y1 z1) (.int .i64 (X.st:Int))) b rfl).mono ?_;rintro e w2 ⟨v2,rfl,hr2,hx⟩;clear ao;obtain⟨f2,G2,g2,j2,Y2,y2,z2,rfl⟩:=hr2.shape;have R2:=J hr2;clear hr2;have R1:=J ((R1.o.ku (KU.four HB.o.x (.bool f1) (.slice G1 g1 j1) (.slice Y1 y1 z1) (.int .i64 (X.st:Int)))).ext hx);have HB:=J ((HB.o.setX (.bool f1) (.slice G1 g1 j1) (.slice Y1 y1 z1) (.int .i64 (X.st:Int))).ext hx);have aR:=J ((au.o.four (g:=w.heap.size+2) (qaO _ _) (.bool f1) (.slice G1 g1 j1) (.slice Y1 y1 z1) (.int .i64 (X.st:Int))).trans hx);have ao:=HB.o.cells;clear hx))
  all_goals go_wp2_with fail
  all_goals go_meet
  all_goals first
   |(with_reducible exact⟨_,_,_,_,_,_,_,_,_,_,_,_,_,_,(HB.o.setX (.bool f1) (.slice G1 g1 j1) (.slice Y1 y1 z1) (.int .i64 (X.st:Int))).setY (.bool f2) (.slice G2 g2 j2) (.slice Y2 y2 z2) (.int .i64 (Y.st:Int)),(R1.o.ku (KU.four HB.o.x (.bool f1) (.slice G1 g1 j1) (.slice Y1 y1 z1) (.int .i64 (X.st:Int)))).ku (KU.four (HB.o.setX (.bool f1) (.slice G1 g1 j1) (.slice Y1 y1 z1) (.int .i64 (X.st:Int))).y (.bool f2) (.slice G2 g2 j2) (.slice Y2 y2 z2) (.int .i64 (Y.st:Int))),(R2.o.ku (KU.four HB.o.x (.bool f1) (.slice G1 g1 j1) (.slice Y1 y1 z1) (.int .i64 (X.st:Int)))).ku (KU.four (HB.o.setX (.bool f1) (.slice G1 g1 j1) (.slice Y1 y1 z1) (.int .i64 (X.st:Int))).y (.bool f2) (.slice G2 g2 j2) (.slice Y2 y2 z2) (.int .i64 (Y.st:Int))),(aR.o.four (g:=w.heap.size+2) (qaO _ _) (.bool f1) (.slice G1 g1 j1) (.slice Y1 y1 z1) (.int .i64 (X.st:Int))).four (g:=w.heap.size+3) (qaO _ _) (.bool f2) (.slice G2 g2 j2) (.slice Y2 y2 z2) (.int .i64 (Y.st:Int))⟩)
   |(with_reducible exact⟨_,_,_,_,_,_,_,_,_,_,_,_,_,_,(HB.o.setY (.bool f2) (.slice G2 g2 j2) (.slice Y2 y2 z2) (.int .i64 (Y.st:Int))).setX (.bool f1) (.slice G1 g1 j1) (.slice Y1 y1 z1) (.int .i64 (X.st:Int)),(R1.o.ku (KU.four HB.o.y (.bool f2) (.slice G2 g2 j2) (.slice Y2 y2 z2) (.int .i64 (Y.st:Int)))).ku (KU.four (HB.o.setY (.bool f2) (.slice G2 g2 j2) (.slice Y2 y2 z2) (.int .i64 (Y.st:Int))).x (.bool f1) (.slice G1 g1 j1) (.slice Y1 y1 z1) (.int .i64 (X.st:Int))),(R2.o.ku (KU.four HB.o.y (.bool f2) (.slice G2 g2 j2) (.slice Y2 y2 z2) (.int .i64 (Y.st:Int)))).ku (KU.four (HB.o.setY (.bool f2) (.slice G2 g2 j2) (.slice Y2 y2 z2) (.int .i64 (Y.st:Int))).x (.bool f1) (.slice G1 g1 j1) (.slice Y1 y1 z1) (.int .i64 (X.st:Int))),(aR.o.four (g:=w.heap.size+3) (qaO _ _) (.bool f2) (.slice G2 g2 j2) (.slice Y2 y2 z2) (.int .i64 (Y.st:Int))).four (g:=w.heap.size+2) (qaO _ _) (.bool f1) (.slice G1 g1 j1) (.slice Y1 y1 z1) (.int .i64 (X.st:Int))⟩)
   |(with_reducible exact⟨_,_,_,_,_,_,_,_,_,_,_,_,_,_,HB.o.setY (.bool f2) (.slice G2 g2 j2) (.slice Y2 y2 z2) (.int .i64 (Y.st:Int)),R1.o.ku (KU.four HB.o.y (.bool f2) (.slice G2 g2 j2) (.slice Y2 y2 z2) (.int .i64 (Y.st:Int))),R2.o.ku (KU.four HB.o.y (.bool f2) (.slice G2 g2 j2) (.slice Y2 y2 z2) (.int .i64 (Y.st:Int))),aR.o.four (g:=w.heap.size+3) (qaO _ _) (.bool f2) (.slice G2 g2 j2) (.slice Y2 y2 z2) (.int .i64 (Y.st:Int))⟩)
 case rest=>
  obtain⟨f1,G1,g1,j1,Y1,y1,z1,f2,G2,g2,j2,Y2,y2,z2,oK,ac,hr2,hx⟩:=hcut;rename_i HK;refine HK _ _ ?_
  clear HK;generalize wc=w4 at *;clear ao;have HB:=J oK;have R1:=J ac;have R2:=J hr2;have HX:=J hx;clear oK ac hr2 hx;rcases sj.cases with rfl|rfl|⟨p,q,rfl,fl,pF,eT⟩
  ·have ao:=HB.o.cells;go_wp2_with fail;obtain⟨ai,ac,hr2,bx⟩:=AJ HB.o.r (.bool false) (.slice none 0 0) (.slice none 0 0) (.int .i64 2);refine bodyPost_ret (v:= .agg #[.bool false,.slice none 0 0,.slice none 0 0,.int .i64 2]) (by simp[results,Tryz.results139,go_sem,ai,ac,hr2,bx]) rfl ?_
   have aI:=HX.o.four (g:=w.heap.size+1) (by omega) (.bool false) (.slice none 0 0) (.slice none 0 0) (.int .i64 2);have ep:=KU.four HB.o.r (.bool false) (.slice none 0 0) (.slice none 0 0) (.int .i64 2);exact⟨_,rfl,(by rw[Np ⟨9,(a:Int),(b:Int),0,t⟩ _ (show ¬(9:Int)<5 by decide)];exact BO.undef _),aI⟩
  ·rcases gS.cases with rfl|rfl|⟨r,s,rfl,kD,qS,vw⟩
   ·have ao:=HB.o.cells;go_wp2_with fail;obtain⟨ai,ac,hr2,bx⟩:=AJ HB.o.r (.bool false) (.slice none 0 0) (.slice none 0 0) (.int .i64 2);refine bodyPost_ret (v:= .agg #[.bool false,.slice none 0 0,.slice none 0 0,.int .i64 2]) (by simp[results,Tryz.results139,go_sem,ai,ac,hr2,bx]) rfl ?_
    have aI:=HX.o.four (g:=w.heap.size+1) (by omega) (.bool false) (.slice none 0 0) (.slice none 0 0) (.int .i64 2);have ep:=KU.four HB.o.r (.bool false) (.slice none 0 0) (.slice none 0 0) (.int .i64 2);exact⟨_,rfl,(by rw[IW ⟨9,(a:Int),(b:Int),0,t⟩ _ (show ¬(9:Int)<5 by decide) (show 6<=(9:Int)/\(9:Int)<=9 by decide)];exact BO.undef _),aI⟩
   ·have ao:=HB.o.cells;go_wp2_with fail;obtain⟨ai,ac,hr2,bx⟩:=AJ HB.o.r (.bool false) (.slice none 0 0) (.slice none 0 0) (.int .i64 0);refine bodyPost_ret (v:= .agg #[.bool false,.slice none 0 0,.slice none 0 0,.int .i64 0]) (by simp[results,Tryz.results139,go_sem,ai,ac,hr2,bx]) rfl ?_
    have aI:=HX.o.four (g:=w.heap.size+1) (by omega) (.bool false) (.slice none 0 0) (.slice none 0 0) (.int .i64 0);have ep:=KU.four HB.o.r (.bool false) (.slice none 0 0) (.slice none 0 0) (.int .i64 0);exact⟨_,rfl,(by rw[FQ ⟨9,(a:Int),(b:Int),0,t⟩ _ _ (show ¬(9:Int)<5 by decide) (show 6<=(9:Int)/\(9:Int)<=9 by decide) (.inl ⟨rfl,rfl⟩)];exact BO.open _),aI⟩
   ·by_cases pG:r=0
    ·have hsg:(sgZ r == 0)=true:=by rw[pG];rfl
     have ao:=HB.o.cells;go_wp2_with fail;clear ao;refine(Da _ _ r s R2.o.rat.arr (by omega) (by omega)).mono ?_
     rintro e w5 ⟨rfl,hx⟩;have HB:=J (HB.o.ext hx);have HX:=J (HX.o.trans hx);have R1:=J (R1.o.ext hx);have R2:=J (R2.o.ext hx);clear hx;have ao:=HB.o.cells;go_wp2_with fail;obtain⟨ai,ac,hr2,bx⟩:=AJ HB.o.r (.bool false) (.slice none 0 0) (.slice none 0 0) (.int .i64 2);refine bodyPost_ret (v:= .agg #[.bool false,.slice none 0 0,.slice none 0 0,.int .i64 2]) (by simp[results,Tryz.results139,go_sem,ai,ac,hr2,bx]) rfl ?_
     have aI:=HX.o.four (g:=w.heap.size+1) (by omega) (.bool false) (.slice none 0 0) (.slice none 0 0) (.int .i64 2);have ep:=KU.four HB.o.r (.bool false) (.slice none 0 0) (.slice none 0 0) (.int .i64 2);exact⟨_,rfl,(by rw[OK ⟨9,(a:Int),(b:Int),0,t⟩ _ _ rfl (by decide) rfl pG];exact BO.undef _),aI⟩
    ·have hsg:(sgZ r == 0)=false:=by rw[beq_eq_false_iff_ne];unfold sgZ;split<;>(try split)<;>omega
     have ao:=HB.o.cells;go_wp2_with fail;clear ao;refine(Da _ _ r s R2.o.rat.arr (by omega) (by omega)).mono ?_
     rintro e w5 ⟨rfl,hx⟩;have HB:=J (HB.o.ext hx);have HX:=J (HX.o.trans hx);have R1:=J (R1.o.ext hx);have R2:=J (R2.o.ext hx);clear hx;have ao:=HB.o.cells;go_wp2_with fail;obtain⟨ai,ac,hr2,bx⟩:=AJ HB.o.r (.bool false) (.slice none 0 0) (.slice none 0 0) (.int .i64 0);refine bodyPost_ret (v:= .agg #[.bool false,.slice none 0 0,.slice none 0 0,.int .i64 0]) (by simp[results,Tryz.results139,go_sem,ai,ac,hr2,bx]) rfl ?_
     have aI:=HX.o.four (g:=w.heap.size+1) (by omega) (.bool false) (.slice none 0 0) (.slice none 0 0) (.int .i64 0);have ep:=KU.four HB.o.r (.bool false) (.slice none 0 0) (.slice none 0 0) (.int .i64 0);exact⟨_,rfl,(by rw[FQ ⟨9,(a:Int),(b:Int),0,t⟩ _ _ (show ¬(9:Int)<5 by decide) (show 6<=(9:Int)/\(9:Int)<=9 by decide) (.inr (.inl ⟨rfl,rfl,.inr pG⟩))];exact BO.open _),aI⟩
  ·rcases gS.cases with rfl|rfl|⟨r,s,rfl,kD,qS,vw⟩
   ·have ao:=HB.o.cells;go_wp2_with fail;obtain⟨ai,ac,hr2,bx⟩:=AJ HB.o.r (.bool false) (.slice none 0 0) (.slice none 0 0) (.int .i64 2);refine bodyPost_ret (v:= .agg #[.bool false,.slice none 0 0,.slice none 0 0,.int .i64 2]) (by simp[results,Tryz.results139,go_sem,ai,ac,hr2,bx]) rfl ?_
    have aI:=HX.o.four (g:=w.heap.size+1) (by omega) (.bool false) (.slice none 0 0) (.slice none 0 0) (.int .i64 2);have ep:=KU.four HB.o.r (.bool false) (.slice none 0 0) (.slice none 0 0) (.int .i64 2);exact⟨_,rfl,(by rw[IW ⟨9,(a:Int),(b:Int),0,t⟩ _ (show ¬(9:Int)<5 by decide) (show 6<=(9:Int)/\(9:Int)<=9 by decide)];exact BO.undef _),aI⟩
   ·have ao:=HB.o.cells;go_wp2_with fail;obtain⟨ai,ac,hr2,bx⟩:=AJ HB.o.r (.bool false) (.slice none 0 0) (.slice none 0 0) (.int .i64 0);refine bodyPost_ret (v:= .agg #[.bool false,.slice none 0 0,.slice none 0 0,.int .i64 0]) (by simp[results,Tryz.results139,go_sem,ai,ac,hr2,bx]) rfl ?_
    have aI:=HX.o.four (g:=w.heap.size+1) (by omega) (.bool false) (.slice none 0 0) (.slice none 0 0) (.int .i64 0);have ep:=KU.four HB.o.r (.bool false) (.slice none 0 0) (.slice none 0 0) (.int .i64 0);exact⟨_,rfl,(by rw[FQ ⟨9,(a:Int),(b:Int),0,t⟩ _ _ (show ¬(9:Int)<5 by decide) (show 6<=(9:Int)/\(9:Int)<=9 by decide) (.inr (.inr ⟨rfl,rfl⟩))];exact BO.open _),aI⟩
   ·by_cases pG:r=0
    ·have hsg:(sgZ r == 0)=true:=by rw[pG];rfl
     have ao:=HB.o.cells;go_wp2_with fail;clear ao;refine(Da _ _ r s R2.o.rat.arr (by omega) (by omega)).mono ?_
     rintro e w5 ⟨rfl,hx⟩;have HB:=J (HB.o.ext hx);have HX:=J (HX.o.trans hx);have R1:=J (R1.o.ext hx);have R2:=J (R2.o.ext hx);clear hx;have ao:=HB.o.cells;go_wp2_with fail;obtain⟨ai,ac,hr2,bx⟩:=AJ HB.o.r (.bool false) (.slice none 0 0) (.slice none 0 0) (.int .i64 2);refine bodyPost_ret (v:= .agg #[.bool false,.slice none 0 0,.slice none 0 0,.int .i64 2]) (by simp[results,Tryz.results139,go_sem,ai,ac,hr2,bx]) rfl ?_
     have aI:=HX.o.four (g:=w.heap.size+1) (by omega) (.bool false) (.slice none 0 0) (.slice none 0 0) (.int .i64 2);have ep:=KU.four HB.o.r (.bool false) (.slice none 0 0) (.slice none 0 0) (.int .i64 2);exact⟨_,rfl,(by rw[OK ⟨9,(a:Int),(b:Int),0,t⟩ _ _ rfl (show (1:Nat)≠2 by decide) rfl pG];exact BO.undef _),aI⟩
    ·have hsg:(sgZ r == 0)=false:=by rw[beq_eq_false_iff_ne];unfold sgZ;split<;>(try split)<;>omega
     have ao:=HB.o.cells;go_wp2_with fail;clear ao;refine(Da _ _ r s R2.o.rat.arr (by omega) (by omega)).mono ?_
     rintro e w5 ⟨rfl,hx⟩;have HB:=J (HB.o.ext hx);have HX:=J (HX.o.trans hx);have R1:=J (R1.o.ext hx);have R2:=J (R2.o.ext hx);clear hx;have HV:=J (OJ ⟨9,(a:Int),(b:Int),0,t⟩ p q r s (show 6<=(9:Int)/\(9:Int)<=9 by decide) (.inr pG));have ao:=HB.o.cells;go_wp2_with fail;clear ao;refine(aS.o _ _ _ p q r s R1.o.rat fl pF eT R2.o.rat kD qS vw pG).mono ?_
     rintro e w8 ⟨v8,st,P,Q,rfl,cO,hx,hP,hQ,aJ⟩;obtain⟨f8,g8,G8,j8,y8,Y8,z8,rfl⟩:=cO.shape;have R8:=J cO;clear cO;have HB:=J (HB.o.ext hx);have HX:=J (HX.o.trans hx);clear hx;have ao:=HB.o.cells;go_upto_region 24 with fail;clear ao;have hb:=Blk.new w8 26 #[.bool f8,.slice G8 g8 j8,.slice Y8 y8 z8];have hx:=(Ext.refl w8).alloc (.cells #[.bool f8,.slice G8 g8 j8,.slice Y8 y8 z8] 26);generalize w8.alloc (.cells #[.bool f8,.slice G8 g8 j8,.slice Y8 y8 z8] 26)=w9 at *;have eO:=J hb;generalize w8.heap.size=ap at *;have HB:=J (HB.o.ext hx);have HX:=J (HX.o.trans hx);have R8:=J (R8.o.ext hx);clear hx;clear hb;have kY:=eO.o.three;rcases aJ with ⟨rfl,aJ⟩|⟨rfl,aJ,rfl,rfl⟩|⟨rfl,aJ,rfl,rfl⟩
     ·have ao:=HB.o.cells;go_wp2_with fail;clear ao;refine(Er _ _ _ _ R8.o (by omega) (by omega)).mono ?_
      rintro e eM ⟨Xx,rfl,fH,hx⟩;obtain⟨lh,ks,kg,ke,li,kX,kW,rfl⟩:=fH.shape;have jt:=J fH;have HS:=J fH.resU;clear fH kY;have HB:=J (HB.o.ext hx);have HX:=J (HX.o.trans hx);clear hx;obtain⟨s10,iD⟩:∃s10:Int,((AN P Q).st:Int)=s10:=⟨_,rfl⟩;rw[iD]at jt ⊢;clear iD;have ao:=HB.o.cells;go_wp2_with fail;obtain⟨ai,ac,hr2,bx⟩:=AJ HB.o.r (.bool lh) (.slice ks kg ke) (.slice li kX kW) (.int .i64 s10);refine bodyPost_ret (v:= .agg #[.bool lh,.slice ks kg ke,.slice li kX kW,.int .i64 s10]) (by simp[results,Tryz.results139,go_sem,ai,ac,hr2,bx]) rfl ?_
      have aI:=HX.o.four (g:=w.heap.size+1) (by omega) (.bool lh) (.slice ks kg ke) (.slice li kX kW) (.int .i64 s10);have ep:=KU.four HB.o.r (.bool lh) (.slice ks kg ke) (.slice li kX kW) (.int .i64 s10);exact⟨_,rfl,(by rw[HV.o,aJ];exact jt.o.ku ep),aI⟩
     ·have ao:=HB.o.cells;go_wp2_with fail;obtain⟨ai,ac,hr2,bx⟩:=AJ HB.o.r (.bool false) (.slice none 0 0) (.slice none 0 0) (.int .i64 2);refine bodyPost_ret (v:= .agg #[.bool false,.slice none 0 0,.slice none 0 0,.int .i64 2]) (by simp[results,Tryz.results139,go_sem,ai,ac,hr2,bx]) rfl ?_
      have aI:=HX.o.four (g:=w.heap.size+1) (by omega) (.bool false) (.slice none 0 0) (.slice none 0 0) (.int .i64 2);have ep:=KU.four HB.o.r (.bool false) (.slice none 0 0) (.slice none 0 0) (.int .i64 2);exact⟨_,rfl,(by rw[HV.o,aJ];exact BO.undef _),aI⟩
     ·have ao:=HB.o.cells;go_wp2_with fail;obtain⟨ai,ac,hr2,bx⟩:=AJ HB.o.r (.bool false) (.slice none 0 0) (.slice none 0 0) (.int .i64 0);refine bodyPost_ret (v:= .agg #[.bool false,.slice none 0 0,.slice none 0 0,.int .i64 0]) (by simp[results,Tryz.results139,go_sem,ai,ac,hr2,bx]) rfl ?_
      have aI:=HX.o.four (g:=w.heap.size+1) (by omega) (.bool false) (.slice none 0 0) (.slice none 0 0) (.int .i64 0);have ep:=KU.four HB.o.r (.bool false) (.slice none 0 0) (.slice none 0 0) (.int .i64 0);exact⟨_,rfl,(by rw[HV.o,aJ];exact BO.open _),aI⟩
theorem Db(w:World)(o:Obj)(cs:Array Value)(t:TypeId)(j:Nat):((w.alloc o).alloc (.cells cs t)).cell? ⟨w.heap.size+1,j,none⟩=cs[j]? :=by
 have h:=(Blk.new (w.alloc o) t cs).cell j;have hs:(w.alloc o).heap.size=w.heap.size+1:=by simp
 rw[hs]at h;exact h
theorem Dz(w:World)(k a b n:Int)(s:ByteArray)(hk:k=1\/k=2\/k=3\/k=4):
  Calls Tryz.prog 107 #[.agg #[.int .i64 k,.int .i64 a,.int .i64 b,.int .i64 n,.string s]] w fun e w'=>e= .returned (.tuple #[.slice none 0 0,.bool true])/\Ext w w':=by
 rcases hk with rfl|rfl|rfl|rfl
 all_goals
  go_enter Tryz.func107,Tryz.ntmps107;go_wp2_with fail;go_ret2;exact⟨rfl,(Ext.refl w).alloc _⟩
theorem Fz(w:World)(k a b n:Int)(s:ByteArray)(hk:k=5\/k=10\/k=11\/k=12\/k=13\/k=14\/k=15\/k=16):
  Calls Tryz.prog 107 #[.agg #[.int .i64 k,.int .i64 a,.int .i64 b,.int .i64 n,.string s]] w fun e w'=>∃b,e= .returned (.tuple #[.slice (some ⟨b,0,none⟩) 1 1,.bool true])/\w'.cell? ⟨b,0,none⟩=some (.int .i64 a)/\w.heap.size<=b/\b<w'.heap.size/\Ext w w':=by
 rcases hk with rfl|rfl|rfl|rfl|rfl|rfl|rfl|rfl
 all_goals
  go_enter Tryz.func107,Tryz.ntmps107;go_wp2_with fail;go_ret2;exact⟨_,rfl,Db _ _ _ _ 0,by simp,by simp,((Ext.refl w).alloc _).alloc _⟩
theorem GN(w:World)(k a b n:Int)(s:ByteArray)(hk:k=6\/k=7\/k=8\/k=9):
  Calls Tryz.prog 107 #[.agg #[.int .i64 k,.int .i64 a,.int .i64 b,.int .i64 n,.string s]] w fun e w'=>∃c,e= .returned (.tuple #[.slice (some ⟨c,0,none⟩) 2 2,.bool true])/\w'.cell? ⟨c,0,none⟩=some (.int .i64 a)/\w'.cell? ⟨c,1,none⟩=some (.int .i64 b)/\w.heap.size<=c/\c<w'.heap.size/\Ext w w':=by
 rcases hk with rfl|rfl|rfl|rfl
 all_goals
  go_enter Tryz.func107,Tryz.ntmps107;go_wp2_with fail;go_ret2;exact⟨_,rfl,Db _ _ _ _ 0,Db _ _ _ _ 1,by simp,by simp,((Ext.refl w).alloc _).alloc _⟩
def Gj(n:Nat)(x:Int):Bool:=decide (x<0) || decide ((n:Int)<=x)
theorem QD(c g n m:Nat)(A:Option Addr)(W:World)(x:Int)(h0:W.cell? ⟨c,0,none⟩=some (.pointer (some ⟨g,0,none⟩)))(h1:W.cell? ⟨g,0,none⟩=some (.slice A n m))(hg:g<W.heap.size):
  FnGives Tryz.prog 200 #[.pointer (some ⟨c,0,none⟩)] #[.int .i64 x] (.bool (Gj n x)) W:=by
 unfold FnGives;show Calls Tryz.prog 200 #[.int .i64 x,.pointer (some ⟨c,0,none⟩)] W _;by_cases hx:x<0
 ·have hd:decide (x<0)=true:=decide_eq_true hx;have ho:Gj n x=true:=by unfold Gj;rw[hd];rfl
  rw[ho];clear ho hx;go_enter Tryz.func200,Tryz.ntmps200;go_wp2_with fail;go_ret;exact⟨rfl,0,rfl⟩
 ·have hd:decide (x<0)=false:=decide_eq_false hx;by_cases hy:(n:Int)<=x
  ·have eH:decide ((n:Int)<=x)=true:=decide_eq_true hy;have ho:Gj n x=true:=by unfold Gj;rw[hd,eH];rfl
   rw[ho];clear ho;go_enter Tryz.func200,Tryz.ntmps200;go_wp2_with fail;go_ret;exact⟨rfl,0,rfl⟩
  ·have eH:decide ((n:Int)<=x)=false:=decide_eq_false hy;have ho:Gj n x=false:=by unfold Gj;rw[hd,eH];rfl
   rw[ho];clear ho;go_enter Tryz.func200,Tryz.ntmps200;go_wp2_with fail;go_ret;exact⟨rfl,0,rfl⟩
theorem Fe (c g n m b k:Nat) (A:Option Addr) (zs:List Int) (W:World) (h0:W.cell? ⟨c,0,none⟩=some (.pointer (some ⟨g,0,none⟩))) (h1:W.cell? ⟨g,0,none⟩=some (.slice A n m))
  (hz:∀j (hj:j<zs.length),W.cell? ⟨b,j,none⟩=some (.int .i64 zs[j])) (hl:zs.length<=100):
  Calls Tryz.prog 199 #[.slice (some ⟨b,0,none⟩) zs.length k,.func (.func 200) #[] #[.pointer (some ⟨c,0,none⟩)]] W fun e w'=>e= .returned (.bool (zs.any (Gj n)))/\∃q,w'=W.drewN q:=by
 have hc:=World.block_lt_of_cell? W _ h0;have hg:=World.block_lt_of_cell? W _ h1;have h:=Tryz.slices_ContainsFunc (fun x:Int=> .int .i64 x) (Gj n) 200 #[.pointer (some ⟨c,0,none⟩)] (enters_of Tryz.func200 (by kernel_rfl) rfl) b 0 zs.length k zs W (fun W' x hb=>QD c g n m A W' x ((hb.cell hc).trans h0) ((hb.cell hg).trans h1) (qan hg hb.size)) (qab _) (by omega) (fun j hj=>by
  rw[qaW,hz j hj,getElem!_pos zs j hj])
 rw[List.take_length]at h;exact h
theorem Ot(B g b:Nat)(w:World)(ns:List Nd)(nv:Value)(h:GrP B g b w ns nv)(t:List UInt8)(ht:Bh t=0)(hm:B5 w):
  Calls Tryz.prog 159 #[.pointer (some ⟨g,0,none⟩),.agg #[.int .i64 1,.int .i64 0,.int .i64 0,.int .i64 0,str t]] w fun e w'=>e= .returned (.bool true)/\Ext w w':=by
 obtain⟨A,c,rfl⟩:=h.row.shape;have HG:=J h.blk;clear h;have jx:=J (fun W h=>Gi W t h);have HM:=J hm;have HT:=J ht;clear hm ht;obtain⟨s,hs⟩:∃s:ByteArray,s=⟨t.toArray⟩:=⟨_,rfl⟩;have hst:str t= .string s:=by rw[hs];rfl
 rw[hst]at jx ⊢;clear hs hst;have ag:=J (Blk.new w 50 #[.pointer (some ⟨g,0,none⟩)]);have au:=J ((Ext.refl w).alloc (.cells #[.pointer (some ⟨g,0,none⟩)] 50));obtain⟨w1,aT⟩:∃w1,w1=w.alloc (.cells #[.pointer (some ⟨g,0,none⟩)] 50):=⟨_,rfl⟩;have cB:w1.heap.size=w.heap.size+1:=by rw[aT];simp
 rw[<-aT]at ag au;have ba:=J (Blk.new w1 95 #[.int .i64 1,.int .i64 0,.int .i64 0,.int .i64 0,.string s]);have aR:=J ((Ext.refl w1).alloc (.cells #[.int .i64 1,.int .i64 0,.int .i64 0,.int .i64 0,.string s] 95));obtain⟨w2,bQ⟩:∃w2,w2=w1.alloc (.cells #[.int .i64 1,.int .i64 0,.int .i64 0,.int .i64 0,.string s] 95):=⟨_,rfl⟩;have jI:w2.heap.size=w.heap.size+2:=by rw[bQ];simp[cB]
 rw[<-bQ,cB]at ba;rw[<-bQ]at aR;have HX:=J (au.o.trans aR.o);have q0:=ba.o.five;go_enter Tryz.func159,Tryz.ntmps159;go_upto_region 1 with fail;rw[<-aT,<-bQ];clear aT bQ;go_wp2_with fail;refine(Dz w2 1 0 0 0 s (by decide)).mono ?_
 rintro e w3 ⟨rfl,ab⟩;have aE:=J ab;have be:=J (ba.o.ext ab);clear ab q0;have q0:=be.o.five;go_wp2_with fail;refine(Tryz.slices_ContainsFunc_empty (α:=Int) none 0 _ w3).mono ?_
 rintro e w4 ⟨rfl,rfl⟩;have iJ:w.heap.size+1<w4.heap.size:=by
  have h1:=aE.o.size;omega
 have kj:Hid (w.heap.size+1≠w4.heap.size):=J (by omega);have gO:Hid (w.heap.size<=w4.heap.size):=J (by omega);have hx5:=(Ext.refl w4).alloc (.cells #[.int .i64 1,.int .i64 0,.int .i64 0,.int .i64 0,.string ⟨#[]⟩] 95);have fT:=J (be.o.ext hx5);have gM:=J (Blk.new w4 95 #[.int .i64 1,.int .i64 0,.int .i64 0,.int .i64 0,.string ⟨#[]⟩]);have dn:=J ((HX.o.trans aE.o).trans hx5);clear hx5 iJ;obtain⟨y0,y1,y2,y3,y4⟩:=fT.o.five;obtain⟨p0,p1,p2,p3,p4⟩:=gM.o.five;obtain⟨w5,eS⟩:∃w5,w5=w4.alloc (.cells #[.int .i64 1,.int .i64 0,.int .i64 0,.int .i64 0,.string ⟨#[]⟩] 95):=⟨_,rfl⟩;rw[<-eS]at fT gM dn y0 y1 y2 y3 y4 p0 p1 p2 p3 p4;go_upto_region 5 with fail;rw[<-eS];clear eS q0;go_wp2_with fail;refine(jx.o _ (HM.o.ext dn.o)).mono ?_
 rintro e w6 ⟨v6,rfl,jJ,dd⟩;obtain⟨b6,n6,A6,c6,m6,D6,d6,rfl⟩:=jJ.shape;clear jJ y0 y1 y2 y3 y4 p0 p1 p2 p3 p4;rw[HT.o];have bH:=dd.alloc (.cells #[.bool b6,.slice A6 n6 c6,.slice D6 m6 d6] 26);have nH:=J (fT.o.ext bH);have lO:=J (gM.o.ext bH);have dD:=J (dn.o.trans bH);have q0:=nH.o.five;have r0:=lO.o.five;clear dd bH;have xr:=J (lO.o.set_ 4 (.string s));have ne:=J (nH.o.far (p:=⟨w4.heap.size,4,none⟩) kj.o (.string s));have db:=J (dD.o.setCell (p:=⟨w4.heap.size,4,none⟩) gO.o (.string s));have f6:=lO.o.frozen 4;obtain⟨y0,y1,y2,y3,y4⟩:=ne.o.five;obtain⟨p0,p1,p2,p3,p4⟩:=Blk.five xr.o;go_wp2_with fail;go_ret;exact⟨rfl,db.o⟩
theorem QC(B g b:Nat)(w:World)(ns:List Nd)(nv:Value)(h:GrP B g b w ns nv)(t:List UInt8)(hn:DQ t=true):
  Calls Tryz.prog 159 #[.pointer (some ⟨g,0,none⟩),.agg #[.int .i64 2,.int .i64 0,.int .i64 0,.int .i64 0,str t]] w fun e w'=>e= .returned (.bool true)/\Ext w w':=by
 obtain⟨A,c,rfl⟩:=h.row.shape;have HG:=J h.blk;clear h;have hw:=(qbN.1 hn).1;have hl:=Gy hw;have hr:Bn t=false:=by
  have so:DQ t=(C9 t && !Bn t):=by rw[CB];rfl
  rw[so,qbN,Bool.not_eq_true']at hn;exact hn.2
 have HW:=J (fun W=>LW W t (by omega));have eu:=J (fun W=>GG W t);rw[hw]at HW;rw[hr]at eu;clear hw hl hr hn;obtain⟨s,hs⟩:∃s:ByteArray,s=⟨t.toArray⟩:=⟨_,rfl⟩;have hst:str t= .string s:=by rw[hs];rfl
 rw[hst]at HW eu ⊢;clear hs hst;have ag:=J (Blk.new w 50 #[.pointer (some ⟨g,0,none⟩)]);have au:=J ((Ext.refl w).alloc (.cells #[.pointer (some ⟨g,0,none⟩)] 50));obtain⟨w1,aT⟩:∃w1,w1=w.alloc (.cells #[.pointer (some ⟨g,0,none⟩)] 50):=⟨_,rfl⟩;have cB:w1.heap.size=w.heap.size+1:=by rw[aT];simp
 rw[<-aT]at ag au;have ba:=J (Blk.new w1 95 #[.int .i64 2,.int .i64 0,.int .i64 0,.int .i64 0,.string s]);have aR:=J ((Ext.refl w1).alloc (.cells #[.int .i64 2,.int .i64 0,.int .i64 0,.int .i64 0,.string s] 95));obtain⟨w2,bQ⟩:∃w2,w2=w1.alloc (.cells #[.int .i64 2,.int .i64 0,.int .i64 0,.int .i64 0,.string s] 95):=⟨_,rfl⟩;have jI:w2.heap.size=w.heap.size+2:=by rw[bQ];simp[cB]
 rw[<-bQ,cB]at ba;rw[<-bQ]at aR;have HX:=J (au.o.trans aR.o);have q0:=ba.o.five;go_enter Tryz.func159,Tryz.ntmps159;go_upto_region 1 with fail;rw[<-aT,<-bQ];clear aT bQ;go_wp2_with fail;refine(Dz w2 2 0 0 0 s (by decide)).mono ?_
 rintro e w3 ⟨rfl,ab⟩;have aE:=J ab;have be:=J (ba.o.ext ab);clear ab q0;have q0:=be.o.five;go_wp2_with fail;refine(Tryz.slices_ContainsFunc_empty (α:=Int) none 0 _ w3).mono ?_
 rintro e w4 ⟨rfl,rfl⟩;have iJ:w.heap.size+1<w4.heap.size:=by
  have h1:=aE.o.size;omega
 have kj:Hid (w.heap.size+1≠w4.heap.size):=J (by omega);have gO:Hid (w.heap.size<=w4.heap.size):=J (by omega);have hx5:=(Ext.refl w4).alloc (.cells #[.int .i64 2,.int .i64 0,.int .i64 0,.int .i64 0,.string ⟨#[]⟩] 95);have fT:=J (be.o.ext hx5);have gM:=J (Blk.new w4 95 #[.int .i64 2,.int .i64 0,.int .i64 0,.int .i64 0,.string ⟨#[]⟩]);have dn:=J ((HX.o.trans aE.o).trans hx5);clear hx5 iJ;obtain⟨y0,y1,y2,y3,y4⟩:=fT.o.five;obtain⟨p0,p1,p2,p3,p4⟩:=gM.o.five;obtain⟨w5,eS⟩:∃w5,w5=w4.alloc (.cells #[.int .i64 2,.int .i64 0,.int .i64 0,.int .i64 0,.string ⟨#[]⟩] 95):=⟨_,rfl⟩;rw[<-eS]at fT gM dn y0 y1 y2 y3 y4 p0 p1 p2 p3 p4;go_upto_region 5 with fail;rw[<-eS];clear eS q0;go_upto_region 14 with fail;have lO:=J (gM.o.set_ 4 (.string s));have nH:=J (fT.o.far (p:=⟨w4.heap.size,4,none⟩) kj.o (.string s));have dD:=J (dn.o.setCell (p:=⟨w4.heap.size,4,none⟩) gO.o (.string s));have f5:=gM.o.frozen 4;obtain⟨y0,y1,y2,y3,y4⟩:=nH.o.five;obtain⟨p0,p1,p2,p3,p4⟩:=Blk.five lO.o
 go_region_with (first|(refine(HW.o _).mono ?_;rintro e wz ⟨rfl,rfl⟩)|(refine(eu.o _).mono ?_;rintro e wz ⟨rfl,rfl⟩))
 all_goals go_wp2_with fail
 all_goals go_ret
 all_goals exact⟨rfl,dD.o.drew⟩
theorem K3(B g b:Nat)(w:World)(ns:List Nd)(nv:Value)(h:GrP B g b w ns nv)(K:Int)(hK:K=3\/K=4):
  Calls Tryz.prog 159 #[.pointer (some ⟨g,0,none⟩),.agg #[.int .i64 K,.int .i64 0,.int .i64 0,.int .i64 0,.string ⟨#[]⟩]] w fun e w'=>e= .returned (.bool true)/\Ext w w':=by
 obtain⟨A,c,rfl⟩:=h.row.shape;have HG:=J h.blk;clear h;have xy:Hid (K=1\/K=2\/K=3\/K=4):=J (by omega);have e1:(K == 1)=false:=beq_eq_false_iff_ne.2 (by omega);have e2:(K == 2)=false:=beq_eq_false_iff_ne.2 (by omega);have th:(K == 10)=false:=beq_eq_false_iff_ne.2 (by omega);clear hK;have ag:=J (Blk.new w 50 #[.pointer (some ⟨g,0,none⟩)]);have au:=J ((Ext.refl w).alloc (.cells #[.pointer (some ⟨g,0,none⟩)] 50));obtain⟨w1,aT⟩:∃w1,w1=w.alloc (.cells #[.pointer (some ⟨g,0,none⟩)] 50):=⟨_,rfl⟩;have cB:w1.heap.size=w.heap.size+1:=by rw[aT];simp
 rw[<-aT]at ag au;have ba:=J (Blk.new w1 95 #[.int .i64 K,.int .i64 0,.int .i64 0,.int .i64 0,.string ⟨#[]⟩]);have aR:=J ((Ext.refl w1).alloc (.cells #[.int .i64 K,.int .i64 0,.int .i64 0,.int .i64 0,.string ⟨#[]⟩] 95));obtain⟨w2,bQ⟩:∃w2,w2=w1.alloc (.cells #[.int .i64 K,.int .i64 0,.int .i64 0,.int .i64 0,.string ⟨#[]⟩] 95):=⟨_,rfl⟩;have jI:w2.heap.size=w.heap.size+2:=by rw[bQ];simp[cB]
 rw[<-bQ,cB]at ba;rw[<-bQ]at aR;have HX:=J (au.o.trans aR.o);have q0:=ba.o.five;go_enter Tryz.func159,Tryz.ntmps159;go_upto_region 1 with fail;rw[<-aT,<-bQ];clear aT bQ;go_wp2_with fail;refine(Dz w2 K 0 0 0 ⟨#[]⟩ xy.o).mono ?_
 rintro e w3 ⟨rfl,ab⟩;have aE:=J ab;have be:=J (ba.o.ext ab);clear ab q0;have q0:=be.o.five;go_wp2_with fail;refine(Tryz.slices_ContainsFunc_empty (α:=Int) none 0 _ w3).mono ?_
 rintro e w4 ⟨rfl,rfl⟩;have iJ:w.heap.size+1<w4.heap.size:=by
  have h1:=aE.o.size;omega
 have kj:Hid (w.heap.size+1≠w4.heap.size):=J (by omega);have gO:Hid (w.heap.size<=w4.heap.size):=J (by omega);have hx5:=(Ext.refl w4).alloc (.cells #[.int .i64 K,.int .i64 0,.int .i64 0,.int .i64 0,.string ⟨#[]⟩] 95);have fT:=J (be.o.ext hx5);have gM:=J (Blk.new w4 95 #[.int .i64 K,.int .i64 0,.int .i64 0,.int .i64 0,.string ⟨#[]⟩]);have dn:=J ((HX.o.trans aE.o).trans hx5);clear hx5 iJ;obtain⟨y0,y1,y2,y3,y4⟩:=fT.o.five;obtain⟨p0,p1,p2,p3,p4⟩:=gM.o.five;obtain⟨w5,eS⟩:∃w5,w5=w4.alloc (.cells #[.int .i64 K,.int .i64 0,.int .i64 0,.int .i64 0,.string ⟨#[]⟩] 95):=⟨_,rfl⟩;rw[<-eS]at fT gM dn y0 y1 y2 y3 y4 p0 p1 p2 p3 p4;go_upto_region 5 with fail;rw[<-eS];clear eS q0;go_wp2_with fail;go_ret;exact⟨rfl,dn.o⟩
theorem Fc(B g b:Nat)(w:World)(ns:List Nd)(nv:Value)(h:GrP B g b w ns nv)(K:Int)(hK:K=5\/K=11\/K=12\/K=13\/K=14\/K=15\/K=16)(a:Int)(h0:0<=a)(h1:a<ns.length):
  Calls Tryz.prog 159 #[.pointer (some ⟨g,0,none⟩),.agg #[.int .i64 K,.int .i64 a,.int .i64 0,.int .i64 0,.string ⟨#[]⟩]] w fun e w'=>e= .returned (.bool true)/\Ext w w':=by
 obtain⟨A,c,rfl⟩:=h.row.shape;have HG:=J h.blk;clear h;have xy:Hid (K=5\/K=10\/K=11\/K=12\/K=13\/K=14\/K=15\/K=16):=J (by omega);have e1:(K == 1)=false:=beq_eq_false_iff_ne.2 (by omega);have e2:(K == 2)=false:=beq_eq_false_iff_ne.2 (by omega);have th:(K == 10)=false:=beq_eq_false_iff_ne.2 (by omega);clear hK;have ag:=J (Blk.new w 50 #[.pointer (some ⟨g,0,none⟩)]);have au:=J ((Ext.refl w).alloc (.cells #[.pointer (some ⟨g,0,none⟩)] 50));obtain⟨w1,aT⟩:∃w1,w1=w.alloc (.cells #[.pointer (some ⟨g,0,none⟩)] 50):=⟨_,rfl⟩;have cB:w1.heap.size=w.heap.size+1:=by rw[aT];simp
 rw[<-aT]at ag au;have ba:=J (Blk.new w1 95 #[.int .i64 K,.int .i64 a,.int .i64 0,.int .i64 0,.string ⟨#[]⟩]);have aR:=J ((Ext.refl w1).alloc (.cells #[.int .i64 K,.int .i64 a,.int .i64 0,.int .i64 0,.string ⟨#[]⟩] 95));obtain⟨w2,bQ⟩:∃w2,w2=w1.alloc (.cells #[.int .i64 K,.int .i64 a,.int .i64 0,.int .i64 0,.string ⟨#[]⟩] 95):=⟨_,rfl⟩;have jI:w2.heap.size=w.heap.size+2:=by rw[bQ];simp[cB]
 rw[<-bQ,cB]at ba;rw[<-bQ]at aR;have HX:=J (au.o.trans aR.o);have q0:=ba.o.five;go_enter Tryz.func159,Tryz.ntmps159;go_upto_region 1 with fail;rw[<-aT,<-bQ];clear aT bQ;go_wp2_with fail;refine(Fz w2 K a 0 0 ⟨#[]⟩ xy.o).mono ?_
 rintro e w3 ⟨x3,rfl,hc0,_,X4,ab⟩;have aE:=J ab;have be:=J (ba.o.ext ab);have xL:=J (Fe w.heap.size g ns.length c x3 1 A [a] w3 ((ab.trans (Ext.refl _)).keep ((ag.o.ext aR.o).cell 0)) (((HX.o.trans ab).cell HG.o.lt).trans (HG.o.cell 0)) (fun j hj=>by
  match j,hj with
  |0,_=>exact hc0) (by simp))
 clear ab q0 hc0;have q0:=be.o.five;go_wp2_with fail;refine xL.o.mono ?_
 rintro e Xw ⟨rfl,y4,rfl⟩;have kN:[a].any (Gj ns.length)=false:=by
  simp only[List.any_cons,List.any_nil,qbv,Gj,qcl,decide_eq_false_iff_not];omega
 rw[kN];clear kN;have ig:=J (be.o.drewN y4);have bE:=J (aE.o.drewN y4);clear aE be q0;generalize hw4:w3.drewN y4=w4 at *;clear hw4;have aE:=bE;have be:=ig;have q0:=be.o.five;have iJ:w.heap.size+1<w4.heap.size:=by
  have h1:=aE.o.size;omega
 have kj:Hid (w.heap.size+1≠w4.heap.size):=J (by omega);have gO:Hid (w.heap.size<=w4.heap.size):=J (by omega);have hx5:=(Ext.refl w4).alloc (.cells #[.int .i64 K,.int .i64 0,.int .i64 0,.int .i64 0,.string ⟨#[]⟩] 95);have fT:=J (be.o.ext hx5);have gM:=J (Blk.new w4 95 #[.int .i64 K,.int .i64 0,.int .i64 0,.int .i64 0,.string ⟨#[]⟩]);have dn:=J ((HX.o.trans aE.o).trans hx5);clear hx5 iJ;obtain⟨y0,y1,y2,y3,y4⟩:=fT.o.five;obtain⟨p0,p1,p2,p3,p4⟩:=gM.o.five;obtain⟨w5,eS⟩:∃w5,w5=w4.alloc (.cells #[.int .i64 K,.int .i64 0,.int .i64 0,.int .i64 0,.string ⟨#[]⟩] 95):=⟨_,rfl⟩;rw[<-eS]at fT gM dn y0 y1 y2 y3 y4 p0 p1 p2 p3 p4;go_upto_region 5 with fail;rw[<-eS];clear eS q0;have lO:=J (gM.o.set_ 1 (.int .i64 a));have nH:=J (fT.o.far (p:=⟨w4.heap.size,1,none⟩) kj.o (.int .i64 a));have dD:=J (dn.o.setCell (p:=⟨w4.heap.size,1,none⟩) gO.o (.int .i64 a));have f5:=gM.o.frozen 1;obtain⟨y0,y1,y2,y3,y4⟩:=nH.o.five;obtain⟨p0,p1,p2,p3,p4⟩:=Blk.five lO.o;go_wp2_with fail;go_ret;exact⟨rfl,dD.o⟩
theorem SB(B g b:Nat)(w:World)(ns:List Nd)(nv:Value)(h:GrP B g b w ns nv)(a n:Int)(h0:0<=a)(h1:a<ns.length)(hn: -64<=n)(hn2:n<=64):
  Calls Tryz.prog 159 #[.pointer (some ⟨g,0,none⟩),.agg #[.int .i64 10,.int .i64 a,.int .i64 0,.int .i64 n,.string ⟨#[]⟩]] w fun e w'=>e= .returned (.bool true)/\Ext w w':=by
 obtain⟨A,c,rfl⟩:=h.row.shape;have HG:=J h.blk;clear h;have ag:=J (Blk.new w 50 #[.pointer (some ⟨g,0,none⟩)]);have au:=J ((Ext.refl w).alloc (.cells #[.pointer (some ⟨g,0,none⟩)] 50));obtain⟨w1,aT⟩:∃w1,w1=w.alloc (.cells #[.pointer (some ⟨g,0,none⟩)] 50):=⟨_,rfl⟩;have cB:w1.heap.size=w.heap.size+1:=by rw[aT];simp
 rw[<-aT]at ag au;have ba:=J (Blk.new w1 95 #[.int .i64 10,.int .i64 a,.int .i64 0,.int .i64 n,.string ⟨#[]⟩]);have aR:=J ((Ext.refl w1).alloc (.cells #[.int .i64 10,.int .i64 a,.int .i64 0,.int .i64 n,.string ⟨#[]⟩] 95));obtain⟨w2,bQ⟩:∃w2,w2=w1.alloc (.cells #[.int .i64 10,.int .i64 a,.int .i64 0,.int .i64 n,.string ⟨#[]⟩] 95):=⟨_,rfl⟩;have jI:w2.heap.size=w.heap.size+2:=by rw[bQ];simp[cB]
 rw[<-bQ,cB]at ba;rw[<-bQ]at aR;have HX:=J (au.o.trans aR.o);have q0:=ba.o.five;go_enter Tryz.func159,Tryz.ntmps159;go_upto_region 1 with fail;rw[<-aT,<-bQ];clear aT bQ;go_wp2_with fail;refine(Fz w2 10 a 0 n ⟨#[]⟩ (by decide)).mono ?_
 rintro e w3 ⟨x3,rfl,hc0,_,X4,ab⟩;have aE:=J ab;have be:=J (ba.o.ext ab);have xL:=J (Fe w.heap.size g ns.length c x3 1 A [a] w3 ((ab.trans (Ext.refl _)).keep ((ag.o.ext aR.o).cell 0)) (((HX.o.trans ab).cell HG.o.lt).trans (HG.o.cell 0)) (fun j hj=>by
  match j,hj with
  |0,_=>exact hc0) (by simp))
 clear ab q0 hc0;have q0:=be.o.five;go_wp2_with fail;refine xL.o.mono ?_
 rintro e Xw ⟨rfl,y4,rfl⟩;have kN:[a].any (Gj ns.length)=false:=by
  simp only[List.any_cons,List.any_nil,qbv,Gj,qcl,decide_eq_false_iff_not];omega
 rw[kN];clear kN;have ig:=J (be.o.drewN y4);have bE:=J (aE.o.drewN y4);clear aE be q0;generalize hw4:w3.drewN y4=w4 at *;clear hw4;have aE:=bE;have be:=ig;have q0:=be.o.five;have iJ:w.heap.size+1<w4.heap.size:=by
  have h1:=aE.o.size;omega
 have kj:Hid (w.heap.size+1≠w4.heap.size):=J (by omega);have gO:Hid (w.heap.size<=w4.heap.size):=J (by omega);have hx5:=(Ext.refl w4).alloc (.cells #[.int .i64 10,.int .i64 0,.int .i64 0,.int .i64 0,.string ⟨#[]⟩] 95);have fT:=J (be.o.ext hx5);have gM:=J (Blk.new w4 95 #[.int .i64 10,.int .i64 0,.int .i64 0,.int .i64 0,.string ⟨#[]⟩]);have dn:=J ((HX.o.trans aE.o).trans hx5);clear hx5 iJ;obtain⟨y0,y1,y2,y3,y4⟩:=fT.o.five;obtain⟨p0,p1,p2,p3,p4⟩:=gM.o.five;obtain⟨w5,eS⟩:∃w5,w5=w4.alloc (.cells #[.int .i64 10,.int .i64 0,.int .i64 0,.int .i64 0,.string ⟨#[]⟩] 95):=⟨_,rfl⟩;rw[<-eS]at fT gM dn y0 y1 y2 y3 y4 p0 p1 p2 p3 p4;go_upto_region 5 with fail;rw[<-eS];clear eS q0;have lO:=J (gM.o.set_ 1 (.int .i64 a));have nH:=J (fT.o.far (p:=⟨w4.heap.size,1,none⟩) kj.o (.int .i64 a));have dD:=J (dn.o.setCell (p:=⟨w4.heap.size,1,none⟩) gO.o (.int .i64 a));have f5:=gM.o.frozen 1;obtain⟨y0,y1,y2,y3,y4⟩:=nH.o.five;obtain⟨p0,p1,p2,p3,p4⟩:=Blk.five lO.o;go_upto_region 16 with fail;have xr:=J (lO.o.set_ 3 (.int .i64 n));have ne:=J (nH.o.far (p:=⟨w4.heap.size,3,none⟩) kj.o (.int .i64 n));have db:=J (dD.o.setCell (p:=⟨w4.heap.size,3,none⟩) gO.o (.int .i64 n));have f6:=lO.o.frozen 3;obtain⟨y0,y1,y2,y3,y4⟩:=ne.o.five;obtain⟨p0,p1,p2,p3,p4⟩:=Blk.five xr.o;go_region
 all_goals go_wp2_with fail
 all_goals go_ret
 all_goals exact⟨rfl,db.o.drew⟩
theorem Hb(B g b:Nat)(w:World)(ns:List Nd)(nv:Value)(h:GrP B g b w ns nv)(K:Int)(hK:K=6\/K=7\/K=8\/K=9)(a b':Int)(h0:0<=a)(h1:a<ns.length)(h2:0<=b')(h3:b'<ns.length):
  Calls Tryz.prog 159 #[.pointer (some ⟨g,0,none⟩),.agg #[.int .i64 K,.int .i64 a,.int .i64 b',.int .i64 0,.string ⟨#[]⟩]] w fun e w'=>e= .returned (.bool true)/\Ext w w':=by
 obtain⟨A,c,rfl⟩:=h.row.shape;have HG:=J h.blk;clear h;have xy:Hid (K=6\/K=7\/K=8\/K=9):=J (by omega);have e1:(K == 1)=false:=beq_eq_false_iff_ne.2 (by omega);have e2:(K == 2)=false:=beq_eq_false_iff_ne.2 (by omega);have th:(K == 10)=false:=beq_eq_false_iff_ne.2 (by omega);clear hK;have ag:=J (Blk.new w 50 #[.pointer (some ⟨g,0,none⟩)]);have au:=J ((Ext.refl w).alloc (.cells #[.pointer (some ⟨g,0,none⟩)] 50));obtain⟨w1,aT⟩:∃w1,w1=w.alloc (.cells #[.pointer (some ⟨g,0,none⟩)] 50):=⟨_,rfl⟩;have cB:w1.heap.size=w.heap.size+1:=by rw[aT];simp
 rw[<-aT]at ag au;have ba:=J (Blk.new w1 95 #[.int .i64 K,.int .i64 a,.int .i64 b',.int .i64 0,.string ⟨#[]⟩]);have aR:=J ((Ext.refl w1).alloc (.cells #[.int .i64 K,.int .i64 a,.int .i64 b',.int .i64 0,.string ⟨#[]⟩] 95));obtain⟨w2,bQ⟩:∃w2,w2=w1.alloc (.cells #[.int .i64 K,.int .i64 a,.int .i64 b',.int .i64 0,.string ⟨#[]⟩] 95):=⟨_,rfl⟩;have jI:w2.heap.size=w.heap.size+2:=by rw[bQ];simp[cB]
 rw[<-bQ,cB]at ba;rw[<-bQ]at aR;have HX:=J (au.o.trans aR.o);have q0:=ba.o.five;go_enter Tryz.func159,Tryz.ntmps159;go_upto_region 1 with fail;rw[<-aT,<-bQ];clear aT bQ;go_wp2_with fail;refine(GN w2 K a b' 0 ⟨#[]⟩ xy.o).mono ?_
 rintro e w3 ⟨x3,rfl,hc0,hc1,_,X4,ab⟩;have aE:=J ab;have be:=J (ba.o.ext ab);have xL:=J (Fe w.heap.size g ns.length c x3 2 A [a,b'] w3 ((ab.trans (Ext.refl _)).keep ((ag.o.ext aR.o).cell 0)) (((HX.o.trans ab).cell HG.o.lt).trans (HG.o.cell 0)) (fun j hj=>by
  match j,hj with
  |0,_=>exact hc0
  |1,_=>exact hc1) (by simp))
 clear ab q0 hc0 hc1;have q0:=be.o.five;go_wp2_with fail;refine xL.o.mono ?_
 rintro e Xw ⟨rfl,y4,rfl⟩;have kN:[a,b'].any (Gj ns.length)=false:=by
  simp only[List.any_cons,List.any_nil,qbv,Gj,qcl,decide_eq_false_iff_not];omega
 rw[kN];clear kN;have ig:=J (be.o.drewN y4);have bE:=J (aE.o.drewN y4);clear aE be q0;generalize hw4:w3.drewN y4=w4 at *;clear hw4;have aE:=bE;have be:=ig;have q0:=be.o.five;have iJ:w.heap.size+1<w4.heap.size:=by
  have h1:=aE.o.size;omega
 have kj:Hid (w.heap.size+1≠w4.heap.size):=J (by omega);have gO:Hid (w.heap.size<=w4.heap.size):=J (by omega);have hx5:=(Ext.refl w4).alloc (.cells #[.int .i64 K,.int .i64 0,.int .i64 0,.int .i64 0,.string ⟨#[]⟩] 95);have fT:=J (be.o.ext hx5);have gM:=J (Blk.new w4 95 #[.int .i64 K,.int .i64 0,.int .i64 0,.int .i64 0,.string ⟨#[]⟩]);have dn:=J ((HX.o.trans aE.o).trans hx5);clear hx5 iJ;obtain⟨y0,y1,y2,y3,y4⟩:=fT.o.five;obtain⟨p0,p1,p2,p3,p4⟩:=gM.o.five;obtain⟨w5,eS⟩:∃w5,w5=w4.alloc (.cells #[.int .i64 K,.int .i64 0,.int .i64 0,.int .i64 0,.string ⟨#[]⟩] 95):=⟨_,rfl⟩;rw[<-eS]at fT gM dn y0 y1 y2 y3 y4 p0 p1 p2 p3 p4;go_upto_region 5 with fail;rw[<-eS];clear eS q0;have lO:=J (gM.o.set_ 1 (.int .i64 a));have nH:=J (fT.o.far (p:=⟨w4.heap.size,1,none⟩) kj.o (.int .i64 a));have dD:=J (dn.o.setCell (p:=⟨w4.heap.size,1,none⟩) gO.o (.int .i64 a));have f5:=gM.o.frozen 1;obtain⟨y0,y1,y2,y3,y4⟩:=nH.o.five;obtain⟨p0,p1,p2,p3,p4⟩:=Blk.five lO.o;have xr:=J (lO.o.set_ 2 (.int .i64 b'));have ne:=J (nH.o.far (p:=⟨w4.heap.size,2,none⟩) kj.o (.int .i64 b'));have db:=J (dD.o.setCell (p:=⟨w4.heap.size,2,none⟩) gO.o (.int .i64 b'));have f6:=lO.o.frozen 2;obtain⟨y0,y1,y2,y3,y4⟩:=ne.o.five;obtain⟨p0,p1,p2,p3,p4⟩:=Blk.five xr.o;go_wp2_with fail;go_ret;exact⟨rfl,db.o⟩
open Go.RowKit Go.ChangeMaps
theorem KZ(B g b:Nat)(w:World)(ns:List Nd)(nv:Value)(h:GrP B g b w ns nv)(x:Nd)(hx:CF ns.length x)(hm:B5 w):
  Calls Tryz.prog 159 #[.pointer (some ⟨g,0,none⟩),ndV x] w fun e w'=>e= .returned (.bool true)/\Ext w w':=by
 have hE:(.string ⟨#[]⟩:Value)=str []:=rfl;rcases hx with ⟨k,t,rfl,⟨rfl,h1,_⟩|⟨rfl,h1⟩|⟨rfl|rfl,rfl⟩⟩|⟨k,n,j,rfl,⟨h1,h2,h3,h4⟩,hj⟩|⟨k,j,q,rfl,hk,hj,hq⟩
 ·exact Ot B g b w ns nv h t h1 hm
 ·exact QC B g b w ns nv h t h1
 ·exact K3 B g b w ns nv h _ (.inl rfl)
 ·exact K3 B g b w ns nv h _ (.inr rfl)
 ·have hk:k=5\/k=10\/k=11\/k=12\/k=13\/k=14\/k=15\/k=16:=by omega
  have j0:(0:Int)<=(j:Int):=by omega
  have j1:(j:Int)<(ns.length:Int):=by omega
  rcases hk with rfl|rfl|rfl|rfl|rfl|rfl|rfl|rfl
  ·rw[h2 (by decide)];exact Fc B g b w ns nv h _ (by simp only;omega) j j0 j1
  ·exact SB B g b w ns nv h j n j0 j1 h3 h4
  ·rw[h2 (by decide)];exact Fc B g b w ns nv h _ (by simp only;omega) j j0 j1
  ·rw[h2 (by decide)];exact Fc B g b w ns nv h _ (by simp only;omega) j j0 j1
  ·rw[h2 (by decide)];exact Fc B g b w ns nv h _ (by simp only;omega) j j0 j1
  ·rw[h2 (by decide)];exact Fc B g b w ns nv h _ (by simp only;omega) j j0 j1
  ·rw[h2 (by decide)];exact Fc B g b w ns nv h _ (by simp only;omega) j j0 j1
  ·rw[h2 (by decide)];exact Fc B g b w ns nv h _ (by simp only;omega) j j0 j1
 ·have hk:k=6\/k=7\/k=8\/k=9:=by omega
  have j0:(0:Int)<=(j:Int):=by omega
  have j1:(j:Int)<(ns.length:Int):=by omega
  have q0:(0:Int)<=(q:Int):=by omega
  have q1:(q:Int)<(ns.length:Int):=by omega
  rcases hk with rfl|rfl|rfl|rfl
  ·exact Hb B g b w ns nv h _ (by simp only;omega) j q j0 j1 q0 q1
  ·exact Hb B g b w ns nv h _ (by simp only;omega) j q j0 j1 q0 q1
  ·exact Hb B g b w ns nv h _ (by simp only;omega) j q j0 j1 q0 q1
  ·exact Hb B g b w ns nv h _ (by simp only;omega) j q j0 j1 q0 q1
theorem Cp{w w':World}{B:Nat}{t:TypeId}{m:Nat}{v:Value}{n:Nat}{xs:List Value}(h:w.ownsRow B t m v n xs)(hk:∀k,v.ownBlock=some k->w'.heap[k]? =w.heap[k]?):w'.ownsRow B t m v n xs:=
 ⟨h.1,h.2.imp id (fun ⟨q,cap,cur,hv,hq,hh,r⟩=>⟨q,cap,cur,hv,hq,(hk q (by rw[hv];rfl)).trans hh,r⟩)⟩
theorem BV{w:World}{B:Nat}{t:TypeId}{m:Nat}{v:Value}{n:Nat}{xs:List Value}(h:w.ownsRow B t m v n xs){k:Nat}(hk:v.ownBlock=some k):k<w.heap.size:=by
 rcases h.2 with ⟨rfl,_⟩|⟨q,cap,cur,rfl,_,hh,_⟩
 ·cases hk
 ·simp only[Value.ownBlock,qar]at hk;subst hk;exact(qcp.1 hh).1
def Ja(B g b:Nat)(ns:List Nd)(nv:Value)(x:Nd)(w:World)(e:Ending)(w':World):Prop:=
 ∃nv',e= .returned (.tuple #[.int .i64 ((Bs ns x).1:Int),.int .i64 0])/\KG g b nv nv' w w'/\GrP B g b w' (Bs ns x).2 nv'
theorem Tp(B g b:Nat)(w:World)(ns:List Nd)(nv:Value)(h:GrP B g b w ns nv)(x:Nd)(hx:CF ns.length x)(hm:B5 w)(hin:x∈ns):
  Calls Tryz.prog 104 #[.pointer (some ⟨g,0,none⟩),ndV x] w (Ja B g b ns nv x w):=by
 have fP:=J (fun W h=>KZ B g b W ns nv h x hx);have HM:=J hm;have HG:=J h;have dz:=h.few;have qX:Ga x:=hx.key (by omega);have lV:=J (fun W (h:GrP B g b W ns nv)=>h.map.look (h.ok.keys (by omega)) h.ok.1 x qX (t:=78) Tryz.underlying78);have fX:(Bs ns x).1=CE x ns:=by unfold Bs;rw[if_pos hin]
 have fi:(Bs ns x).2=ns:=by unfold Bs;rw[if_pos hin]
 have vB:Gh x ns=(CE x ns:Int):=by unfold Gh;rw[if_pos hin]
 rw[vB,decide_eq_true hin]at lV;have tW:=J fX;have tV:=J fi;clear fX fi vB hin qX dz hm hx;obtain⟨A,c,rfl⟩:=h.row.shape;clear h;obtain⟨k,a,d,n,t⟩:=x;simp only[ndV]at fP lV ⊢;obtain⟨s,hs⟩:∃s:ByteArray,s=⟨t.toArray⟩:=⟨_,rfl⟩;have hst:str t= .string s:=by rw[hs];rfl
 rw[hst]at fP lV ⊢;clear hs hst;have ag:=J (Blk.new w 95 #[.int .i64 k,.int .i64 a,.int .i64 d,.int .i64 n,.string s]);have au:=J ((Ext.refl w).alloc (.cells #[.int .i64 k,.int .i64 a,.int .i64 d,.int .i64 n,.string s] 95));obtain⟨w1,aT⟩:∃w1,w1=w.alloc (.cells #[.int .i64 k,.int .i64 a,.int .i64 d,.int .i64 n,.string s] 95):=⟨_,rfl⟩;rw[<-aT]at ag au;have q0:=ag.o.five;go_enter Tryz.func104,Tryz.ntmps104;go_upto_region 1 with fail;rw[<-aT];clear aT;go_wp2_with fail;refine(fP.o w1 (HG.o.keep au.o) (HM.o.ext au.o)).mono ?_
 rintro e w2 ⟨rfl,ah⟩;have aR:=J (au.o.trans ah);have lq:=J (HG.o.keep aR.o);have ba:=J (ag.o.ext ah);clear q0 ah;have q0:=ba.o.five;have k0:=lq.o.blk.twoG;have uB:=lV.o w2 lq.o;have vZ:=lV.o w2.drew (lq.o.keep (Ext.refl w2).drew);go_wp2_with fail;go_region;go_wp2_with fail;go_ret2;have ab:=aR.o.drew;refine⟨_,by rw[tW.o];rfl,KG.of_ext ab,?_⟩;rw[tV.o];exact HG.o.keep ab
theorem Tq(B g b:Nat)(w:World)(ns:List Nd)(nv:Value)(h:GrP B g b w ns nv)(x:Nd)(hx:CF ns.length x)(hm:B5 w)(hin:x∉ns)(bK:ns.length<4096):
  Calls Tryz.prog 104 #[.pointer (some ⟨g,0,none⟩),ndV x] w (Ja B g b ns nv x w):=by
 have fP:=J (fun W h=>KZ B g b W ns nv h x hx);have HM:=J hm;have HG:=J h;have qX:Ga x:=hx.key (by omega);have lV:=J (fun W (h:GrP B g b W ns nv)=>h.map.look (h.ok.keys (by omega)) h.ok.1 x qX (t:=78) Tryz.underlying78);have bF:=J (fun W (h:DY W b ns)=>h.store (HG.o.ok.keys (by omega)) x qX hin (t:=78) Tryz.underlying78);have fX:(Bs ns x).1=ns.length:=by unfold Bs;rw[if_neg hin]
 have fi:(Bs ns x).2=ns++[x]:=by unfold Bs;rw[if_neg hin]
 have vB:Gh x ns=0:=by unfold Gh;rw[if_neg hin]
 rw[vB,decide_eq_false hin]at lV;have gN:Hid (AK (ns++[x])):=J (by rw[<-fi];exact h.ok.put hx);have tW:=J fX;have tV:=J fi;clear fX fi vB hin qX hm hx;have fS:=h.lo;have sy:=h.lo2;have dP:=h.apart3;have Zy:=J h.apart;have qK:=J h.apart2;have Vt:=h.lt;have hbz0:=h.map.lt;obtain⟨A,c,rfl⟩:=h.row.shape;clear h;obtain⟨i0,hi,aD,hz1,bu⟩:=info_parts EP;obtain⟨k,a,d,n,t⟩:=x;simp only[ndV]at fP lV bF ⊢;obtain⟨s,hs⟩:∃s:ByteArray,s=⟨t.toArray⟩:=⟨_,rfl⟩;have qu:Hid (ndC ⟨k,a,d,n,t⟩=[.int .i64 k,.int .i64 a,.int .i64 d,.int .i64 n,.string s]):=J (by rw[hs];rfl);have hst:str t= .string s:=by rw[hs];rfl
 rw[hst]at fP lV bF ⊢;clear hs hst;have ag:=J (Blk.new w 95 #[.int .i64 k,.int .i64 a,.int .i64 d,.int .i64 n,.string s]);have au:=J ((Ext.refl w).alloc (.cells #[.int .i64 k,.int .i64 a,.int .i64 d,.int .i64 n,.string s] 95));obtain⟨w1,aT⟩:∃w1,w1=w.alloc (.cells #[.int .i64 k,.int .i64 a,.int .i64 d,.int .i64 n,.string s] 95):=⟨_,rfl⟩;have cB:w1.heap.size=w.heap.size+1:=by rw[aT];simp
 rw[<-aT]at ag au;have q0:=ag.o.five;have pM:decide ((ns.length:Int)>=4096)=false:=decide_eq_false (by omega);have hd5:decide (4096<=(ns.length:Int))=false:=decide_eq_false (by omega);go_enter Tryz.func104,Tryz.ntmps104;go_upto_region 1 with fail;rw[<-aT];clear aT;go_wp2_with fail;refine(fP.o w1 (HG.o.keep au.o) (HM.o.ext au.o)).mono ?_
 rintro e w2 ⟨rfl,ah⟩;have aR:=J (au.o.trans ah);have lq:=J (HG.o.keep aR.o);have ba:=J (ag.o.ext ah);have jI:w.heap.size<w2.heap.size:=by have:=ah.size;omega
 clear q0 ah;have q0:=ba.o.five;obtain⟨k0,k1,f0,f1,eC⟩:=lq.o.blk.twoG;have uB:=lV.o w2 lq.o;have vZ:=lV.o w2.drew (lq.o.keep (Ext.refl w2).drew);go_wp2_with fail;go_region;go_upto_region 9 with fail;obtain⟨wA,vk⟩:∃wA,wA=w2.drew:=⟨_,rfl⟩;have zc:Ext w wA:=by rw[vk];exact aR.o.drew
 have XS:w.heap.size<wA.heap.size:=by rw[vk];exact jI
 have bq:=J zc;have pr:=J (HG.o.keep zc);have Yl:Blk wA w.heap.size 95 #[.int .i64 k,.int .i64 a,.int .i64 d,.int .i64 n,.string s]:=by rw[vk];exact ba.o.drew
 have yF:=J Yl;rw[<-vk];clear vk zc Yl uB vZ q0 k0 k1 f0 f1 eC;have q0:=yF.o.five;obtain⟨k0,k1,f0,f1,eC⟩:=pr.o.blk.twoG;have jY:Hid (∀w':World,(wA.alloc (.cells #[.int .i64 k,.int .i64 a,.int .i64 d,.int .i64 n,.string s] 95)).drew.grownBy w' (Value.slice A ns.length c).ownBlock->Blk w' g 80 #[.slice A ns.length c,.map (some b)]/\DY w' b ns/\Blk w' w.heap.size 95 #[.int .i64 k,.int .i64 a,.int .i64 d,.int .i64 n,.string s]/\wA.grownBy w' (Value.slice A ns.length c).ownBlock):=J (fun w' aC=>by
  have lE:wA.grownBy w' (Value.slice A ns.length c).ownBlock:=by
   refine⟨aC.os,aC.tape,aC.output,?_,fun i h1 h2=> ?_⟩
   ·have:=aC.size;simp only[World.size_drew,World.size_alloc]at this;omega
   ·exact(aC.block i (by simp only[World.size_drew,World.size_alloc];omega) h2).trans (Below.heap_alloc wA _ i h1)
  have hbN:some w.heap.size≠(Value.slice A ns.length c).ownBlock:=fun e=>by
   have h1:=pr.o.row;unfold AB at h1;rcases(HG.o.row).2 with ⟨h2,_⟩|⟨q,cap,cur,h2,_,hh,_⟩
   ·rw[h2]at e;cases e
   ·rw[h2]at e;simp only[Value.ownBlock,qar]at e;have:=(qcp.1 hh).1;omega
  exact⟨(lE.block g eC (fun e=>qK.o e.symm)).trans pr.o.blk,pr.o.map.kept (lE.block b pr.o.map.lt (fun e=>Zy.o e.symm)),(lE.block w.heap.size XS hbN).trans yF.o,lE⟩)
 have dc:Hid (∀(j:Nat) (u:Value),[.int .i64 k,.int .i64 a,.int .i64 d,.int .i64 n,.string s][j]? =some u->(wA.alloc (.cells #[.int .i64 k,.int .i64 a,.int .i64 d,.int .i64 n,.string s] 95)).drew.cell? ((⟨wA.heap.size,0,none⟩:Addr).add j)=some u):=J (fun j u hj=>by
  have h1:=(Blk.new wA 95 #[.int .i64 k,.int .i64 a,.int .i64 d,.int .i64 n,.string s]).drew.cell j;have h2:(⟨wA.heap.size,0,none⟩:Addr).add j=⟨wA.heap.size,j,none⟩:=by
   unfold Addr.add;split
   ·rename_i h;subst h;rfl
   ·simp
  rw[h2,h1,<-hj];simp)
 have ec:Hid ((wA.alloc (.cells #[.int .i64 k,.int .i64 a,.int .i64 d,.int .i64 n,.string s] 95)).drew.ownsRow B 95 5 (.slice A ns.length c) ns.length (BR ns)):=J (Ah pr.o.row (fun k _ hk=>Below.heap_alloc wA _ k hk));have jz:Hid (ns.length+1<=maxLen):=J (by unfold maxLen;omega);have eP:Hid ((ns.length+1)*48<=140737488355328):=J (by omega);have tY:Hid (B<=(wA.alloc (.cells #[.int .i64 k,.int .i64 a,.int .i64 d,.int .i64 n,.string s] 95)).drew.heap.size):=J (by simp only[World.size_drew,World.size_alloc];omega)
 go_region_law (refine step_append_lies _ rfl (.tmp 39) (.tmp 41) 77 rfl B 95 i0 _ 5 48 Tryz.underlying77 hi aD hz1 bu rfl (by decide) _ ns.length (BR ns) rfl ec.o ⟨wA.heap.size,0,none⟩ 1 1 [.int .i64 k,.int .i64 a,.int .i64 d,.int .i64 n,.string s] rfl rfl dc.o (by simp[Value.oneCell']) (by decide) jz.o eP.o tY.o _ rfl ?_;intro g' c' w' al aC hat hlt;have qB:=J al;have eQ:=J (jY.o w' aC);have gy:=J hat;clear al aC hat;have m0:=eQ.o.1.twoG)
 all_goals
  have vM:g'≠g:=by
   rcases gy.o with h4|h4
   ·exact fun e=>qK.o (h4.trans (congrArg some e))
   ·simp only[World.size_drew,World.size_alloc]at h4;omega
  have hne2:g'≠b:=by
   rcases gy.o with h4|h4
   ·exact fun e=>Zy.o (h4.trans (congrArg some e))
   ·have:=pr.o.map.lt;simp only[World.size_drew,World.size_alloc]at h4;omega
  have eG:=eQ.o.1.set_ 0 (.slice (some ⟨g',0,none⟩) (ns.length+1) c');have hN:DY (w'.setCell ⟨g,0,none⟩ (.slice (some ⟨g',0,none⟩) (ns.length+1) c')) b ns:=eQ.o.2.1.kept (Below.heap_setCell _ _ _ b (fun e=>dP e.symm));have oI:=eQ.o.2.2.1.far (p:=⟨g,0,none⟩) (by show w.heap.size≠g;omega) (.slice (some ⟨g',0,none⟩) (ns.length+1) c');have bc:=Cp (w':=w'.setCell ⟨g,0,none⟩ (.slice (some ⟨g',0,none⟩) (ns.length+1) c')) qB.o (fun k hk=>Below.heap_setCell _ _ _ k (by
   simp only[Value.ownBlock,qar]at hk;show k≠g;omega))
  have fd:∀k,k<w.heap.size->k≠g->(Value.slice A ns.length c).ownBlock≠some k->(w'.setCell ⟨g,0,none⟩ (.slice (some ⟨g',0,none⟩) (ns.length+1) c')).heap[k]? =w.heap[k]? :=fun k h1 h2 h3=>
   (Below.heap_setCell _ _ _ k h2).trans ((eQ.o.2.2.2.block k (by omega) (fun e=>h3 e.symm)).trans (bq.o.block k h1))
  have vE:(w'.setCell ⟨g,0,none⟩ (.slice (some ⟨g',0,none⟩) (ns.length+1) c')).os=w.os/\(w'.setCell ⟨g,0,none⟩ (.slice (some ⟨g',0,none⟩) (ns.length+1) c')).tape=w.tape/\(w'.setCell ⟨g,0,none⟩ (.slice (some ⟨g',0,none⟩) (ns.length+1) c')).output=w.output/\wA.heap.size<=(w'.setCell ⟨g,0,none⟩ (.slice (some ⟨g',0,none⟩) (ns.length+1) c')).heap.size:=by
   have h2:=Below.setCell (Below.refl g w') (p:=⟨g,0,none⟩) (qab _) (.slice (some ⟨g',0,none⟩) (ns.length+1) c');have h4:=eQ.o.2.2.2;exact⟨h2.os.trans (h4.os.trans bq.o.os),h2.tape.trans (h4.tape.trans bq.o.tape),h2.output.trans (h4.output.trans bq.o.output),qae h4.size h2.size⟩
  generalize (w'.setCell ⟨g,0,none⟩ (.slice (some ⟨g',0,none⟩) (ns.length+1) c'))=wB at *;have qG:=J eG;have gf:=J bc;have uo:=J fd;have mZ:=J vE;clear q0 k0 k1 f0 f1 m0 bc fd vE;have q0:=oI.five;obtain⟨k0,k1,f0,f1,wk⟩:=Blk.twoG eG;obtain⟨wC,fG,XZ,pK⟩:=bF.o wB.drew hN;have HNC:=J XZ;have HGC:=J pK;have lQ:=J hN;clear eG hN oI XZ pK;go_wp2_with fail;go_region;go_wp2_with fail;go_ret2;have pK:=HGC.o;have hzC:wB.heap.size<=wC.heap.size:=pK.size;have ZX:=mZ.o.2.2.2;refine⟨(.slice (some ⟨g',0,none⟩) (ns.length+1) c'),by rw[tW.o];rfl,⟨pK.os.trans mZ.o.1,pK.tape.trans mZ.o.2.1,pK.output.trans mZ.o.2.2.1,by omega,fun k h1 h2 h3 h4=> ?_,fun j hj=> ?_⟩,?_⟩
  ·exact(pK.block k (show k<wB.heap.size by omega) (fun e=>h3 (qbh e))).trans (uo.o k h1 h2 h4)
  ·have h5:g'=j:=qbh hj;rcases gy.o with h4|h4
   ·exact .inl (h4.trans (congrArg some h5))
   ·simp only[World.size_drew,World.size_alloc]at h4;exact .inr (by omega)
  ·rw[tV.o];refine⟨(pK.block g (show g<wB.heap.size by omega) (fun e=>dP (qbh e))).trans qG.o,?_,HNC.o,fS,sy,gN.o,by simp only[qac,qal];omega,HG.o.low⟩;unfold AB;rw[Dc,EM,qu.o,qac,qal];refine Cp gf.o (fun k hk=>pK.block k (BV gf.o hk) (fun e=> ?_));have h5:g'=k:=qbh hk;have h6:k=b:=qbh e;exact hne2 (h5.trans h6)
theorem MN(B g b:Nat)(w:World)(ns:List Nd)(nv:Value)(h:GrP B g b w ns nv)(x:Nd)(hx:CF ns.length x)(hm:B5 w)(bK:ns.length<4096):
  Calls Tryz.prog 104 #[.pointer (some ⟨g,0,none⟩),ndV x] w (Ja B g b ns nv x w):=by
 by_cases hin:x∈ns
 ·exact Tp B g b w ns nv h x hx hm hin
 ·exact Tq B g b w ns nv h x hx hm hin bK
end Big
end Go.Proofs.YtkoaogkknnelaaaGreatDoor
