import Derived.Test.YtkoaogkknnelaaaGreatDoorM13
import Derived.Test.YtkoaogkknnelaaaGreatDoorM16
import Derived.Lib.ConvBytes
set_option linter.unusedVariables false
set_option linter.unusedSimpArgs false
set_option maxHeartbeats 1000000
set_option maxRecDepth 100000
namespace Go.Proofs.YtkoaogkknnelaaaGreatDoor
namespace Big
open Lib renaming hid → J
open Go.RowKit
@[irreducible] def was (w:World) (g o:Nat):Value:=(w.cell? ⟨g,o,none⟩).getD undef
theorem Ae{w:World}{g o:Nat}{u:Value}(h:w.cell? ⟨g,o,none⟩=some u):w.cell? ⟨g,o,none⟩=some (was w g o):=by
 unfold was;rw[h];rfl
theorem Ext.keepf{w w':World}{b o:Nat}{u:Value}(hx:Ext w w')(h:w.cell? ⟨b,o,none⟩=some u)(hf:w.frozen? ⟨b,o,none⟩=false):w'.frozen? ⟨b,o,none⟩=false:=(hx.frozen (World.block_lt_of_cell? w _ h)).trans hf
theorem Al{w:World}{g i b o:Nat}{u v:Value}(h:w.cell? ⟨b,o,none⟩=some v)(hne:b≠g):(w.setCell ⟨g,i,none⟩ u).cell? ⟨b,o,none⟩=some v:=
 (World.cell?_setCell_other w _ _ u (fun e=>hne (by injection e with e1 _ _;exact e1.symm))).trans h
theorem AC{w:World}{g i b o:Nat}{u v:Value}(h:w.cell? ⟨b,o,none⟩=some v):∃v',(w.setCell ⟨g,i,none⟩ u).cell? ⟨b,o,none⟩=some v':=by
 obtain⟨v',hv⟩:=cell?_setCell_some (w:=w) (p:=⟨g,i,none⟩) (x:=u) (q:=⟨b,o,none⟩) (v:=v) h;exact⟨v',hv⟩
theorem AY{w:World}{g i b o:Nat}{u:Value}(hf:w.frozen? ⟨b,o,none⟩=false):(w.setCell ⟨g,i,none⟩ u).frozen? ⟨b,o,none⟩=false:=by
 rw[World.frozen?_setCell];exact hf
theorem Eg{w w1 w2:World}{g b0 o0 b1 o1 b2 o2 b3 o3:Nat}{u0 u1 u2 u3:Value}(h:Ext w w1/\w1.cell? ⟨b0,o0,none⟩=some u0/\w1.cell? ⟨b1,o1,none⟩=some u1/\w1.cell? ⟨b2,o2,none⟩=some u2/\w1.cell? ⟨b3,o3,none⟩=some u3/\w1.cell? ⟨g,0,none⟩=some (was w1 g 0)/\w1.cell? ⟨g,1,none⟩=some (was w1 g 1)/\w1.frozen? ⟨g,0,none⟩=false/\w1.frozen? ⟨g,1,none⟩=false)(hx:Ext w1 w2):Ext w w2/\w2.cell? ⟨b0,o0,none⟩=some u0/\w2.cell? ⟨b1,o1,none⟩=some u1/\w2.cell? ⟨b2,o2,none⟩=some u2/\w2.cell? ⟨b3,o3,none⟩=some u3/\w2.cell? ⟨g,0,none⟩=some (was w2 g 0)/\w2.cell? ⟨g,1,none⟩=some (was w2 g 1)/\w2.frozen? ⟨g,0,none⟩=false/\w2.frozen? ⟨g,1,none⟩=false:=
 ⟨h.1.trans hx,hx.keep h.2.1,hx.keep h.2.2.1,hx.keep h.2.2.2.1,hx.keep h.2.2.2.2.1,Ae (hx.keep h.2.2.2.2.2.1),Ae (hx.keep h.2.2.2.2.2.2.1),hx.keepf h.2.2.2.2.2.1 h.2.2.2.2.2.2.2.1,hx.keepf h.2.2.2.2.2.2.1 h.2.2.2.2.2.2.2.2⟩
theorem Cr{w w1:World}{g b0 o0 b1 o1 b2 o2 b3 o3:Nat}{u0 u1 u2 u3:Value}{x0 x1:Value}(h:Ext w w1/\w1.cell? ⟨b0,o0,none⟩=some u0/\w1.cell? ⟨b1,o1,none⟩=some u1/\w1.cell? ⟨b2,o2,none⟩=some u2/\w1.cell? ⟨b3,o3,none⟩=some u3/\w1.cell? ⟨g,0,none⟩=some (was w1 g 0)/\w1.cell? ⟨g,1,none⟩=some (was w1 g 1)/\w1.frozen? ⟨g,0,none⟩=false/\w1.frozen? ⟨g,1,none⟩=false)(hg:w.heap.size<=g)(n0:b0≠g)(n1:b1≠g)(n2:b2≠g)(n3:b3≠g):Ext w ((w1.setCell ⟨g,0,none⟩ x0).setCell ⟨g,1,none⟩ x1)/\((w1.setCell ⟨g,0,none⟩ x0).setCell ⟨g,1,none⟩ x1).cell? ⟨b0,o0,none⟩=some u0/\((w1.setCell ⟨g,0,none⟩ x0).setCell ⟨g,1,none⟩ x1).cell? ⟨b1,o1,none⟩=some u1/\((w1.setCell ⟨g,0,none⟩ x0).setCell ⟨g,1,none⟩ x1).cell? ⟨b2,o2,none⟩=some u2/\((w1.setCell ⟨g,0,none⟩ x0).setCell ⟨g,1,none⟩ x1).cell? ⟨b3,o3,none⟩=some u3/\((w1.setCell ⟨g,0,none⟩ x0).setCell ⟨g,1,none⟩ x1).cell? ⟨g,0,none⟩=some (was ((w1.setCell ⟨g,0,none⟩ x0).setCell ⟨g,1,none⟩ x1) g 0)/\((w1.setCell ⟨g,0,none⟩ x0).setCell ⟨g,1,none⟩ x1).cell? ⟨g,1,none⟩=some (was ((w1.setCell ⟨g,0,none⟩ x0).setCell ⟨g,1,none⟩ x1) g 1)/\((w1.setCell ⟨g,0,none⟩ x0).setCell ⟨g,1,none⟩ x1).frozen? ⟨g,0,none⟩=false/\((w1.setCell ⟨g,0,none⟩ x0).setCell ⟨g,1,none⟩ x1).frozen? ⟨g,1,none⟩=false:=by
 obtain⟨_,k0⟩:=AC (g:=g) (i:=0) (u:=x0) h.2.2.2.2.2.1;obtain⟨_,k0⟩:=AC (g:=g) (i:=1) (u:=x1) k0;obtain⟨_,k1⟩:=AC (g:=g) (i:=0) (u:=x0) h.2.2.2.2.2.2.1;obtain⟨_,k1⟩:=AC (g:=g) (i:=1) (u:=x1) k1;exact⟨((h.1.setCell hg _).setCell hg _),(Al (Al h.2.1 n0) n0),(Al (Al h.2.2.1 n1) n1),(Al (Al h.2.2.2.1 n2) n2),(Al (Al h.2.2.2.2.1 n3) n3),Ae k0,Ae k1,(AY (AY h.2.2.2.2.2.2.2.1)),(AY (AY h.2.2.2.2.2.2.2.2))⟩
theorem B9{w w1 w2:World}{g b0 o0 b1 o1 b2 o2:Nat}{u0 u1 u2:Value}(h:Ext w w1/\w1.cell? ⟨b0,o0,none⟩=some u0/\w1.cell? ⟨b1,o1,none⟩=some u1/\w1.cell? ⟨b2,o2,none⟩=some u2/\w1.cell? ⟨g,0,none⟩=some (was w1 g 0)/\w1.cell? ⟨g,1,none⟩=some (was w1 g 1)/\w1.cell? ⟨g,2,none⟩=some (was w1 g 2)/\w1.frozen? ⟨g,0,none⟩=false/\w1.frozen? ⟨g,1,none⟩=false/\w1.frozen? ⟨g,2,none⟩=false)(hx:Ext w1 w2):Ext w w2/\w2.cell? ⟨b0,o0,none⟩=some u0/\w2.cell? ⟨b1,o1,none⟩=some u1/\w2.cell? ⟨b2,o2,none⟩=some u2/\w2.cell? ⟨g,0,none⟩=some (was w2 g 0)/\w2.cell? ⟨g,1,none⟩=some (was w2 g 1)/\w2.cell? ⟨g,2,none⟩=some (was w2 g 2)/\w2.frozen? ⟨g,0,none⟩=false/\w2.frozen? ⟨g,1,none⟩=false/\w2.frozen? ⟨g,2,none⟩=false:=
 ⟨h.1.trans hx,hx.keep h.2.1,hx.keep h.2.2.1,hx.keep h.2.2.2.1,Ae (hx.keep h.2.2.2.2.1),Ae (hx.keep h.2.2.2.2.2.1),Ae (hx.keep h.2.2.2.2.2.2.1),hx.keepf h.2.2.2.2.1 h.2.2.2.2.2.2.2.1,hx.keepf h.2.2.2.2.2.1 h.2.2.2.2.2.2.2.2.1,hx.keepf h.2.2.2.2.2.2.1 h.2.2.2.2.2.2.2.2.2⟩
theorem Bc{w w1:World}{g b0 o0 b1 o1 b2 o2:Nat}{u0 u1 u2:Value}{x0 x1 x2:Value}(h:Ext w w1/\w1.cell? ⟨b0,o0,none⟩=some u0/\w1.cell? ⟨b1,o1,none⟩=some u1/\w1.cell? ⟨b2,o2,none⟩=some u2/\w1.cell? ⟨g,0,none⟩=some (was w1 g 0)/\w1.cell? ⟨g,1,none⟩=some (was w1 g 1)/\w1.cell? ⟨g,2,none⟩=some (was w1 g 2)/\w1.frozen? ⟨g,0,none⟩=false/\w1.frozen? ⟨g,1,none⟩=false/\w1.frozen? ⟨g,2,none⟩=false)(hg:w.heap.size<=g)(n0:b0≠g)(n1:b1≠g)(n2:b2≠g):Ext w (((w1.setCell ⟨g,0,none⟩ x0).setCell ⟨g,1,none⟩ x1).setCell ⟨g,2,none⟩ x2)/\(((w1.setCell ⟨g,0,none⟩ x0).setCell ⟨g,1,none⟩ x1).setCell ⟨g,2,none⟩ x2).cell? ⟨b0,o0,none⟩=some u0/\(((w1.setCell ⟨g,0,none⟩ x0).setCell ⟨g,1,none⟩ x1).setCell ⟨g,2,none⟩ x2).cell? ⟨b1,o1,none⟩=some u1/\(((w1.setCell ⟨g,0,none⟩ x0).setCell ⟨g,1,none⟩ x1).setCell ⟨g,2,none⟩ x2).cell? ⟨b2,o2,none⟩=some u2/\(((w1.setCell ⟨g,0,none⟩ x0).setCell ⟨g,1,none⟩ x1).setCell ⟨g,2,none⟩ x2).cell? ⟨g,0,none⟩=some (was (((w1.setCell ⟨g,0,none⟩ x0).setCell ⟨g,1,none⟩ x1).setCell ⟨g,2,none⟩ x2) g 0)/\(((w1.setCell ⟨g,0,none⟩ x0).setCell ⟨g,1,none⟩ x1).setCell ⟨g,2,none⟩ x2).cell? ⟨g,1,none⟩=some (was (((w1.setCell ⟨g,0,none⟩ x0).setCell ⟨g,1,none⟩ x1).setCell ⟨g,2,none⟩ x2) g 1)/\(((w1.setCell ⟨g,0,none⟩ x0).setCell ⟨g,1,none⟩ x1).setCell ⟨g,2,none⟩ x2).cell? ⟨g,2,none⟩=some (was (((w1.setCell ⟨g,0,none⟩ x0).setCell ⟨g,1,none⟩ x1).setCell ⟨g,2,none⟩ x2) g 2)/\(((w1.setCell ⟨g,0,none⟩ x0).setCell ⟨g,1,none⟩ x1).setCell ⟨g,2,none⟩ x2).frozen? ⟨g,0,none⟩=false/\(((w1.setCell ⟨g,0,none⟩ x0).setCell ⟨g,1,none⟩ x1).setCell ⟨g,2,none⟩ x2).frozen? ⟨g,1,none⟩=false/\(((w1.setCell ⟨g,0,none⟩ x0).setCell ⟨g,1,none⟩ x1).setCell ⟨g,2,none⟩ x2).frozen? ⟨g,2,none⟩=false:=by
 obtain⟨_,k0⟩:=AC (g:=g) (i:=0) (u:=x0) h.2.2.2.2.1;obtain⟨_,k0⟩:=AC (g:=g) (i:=1) (u:=x1) k0;obtain⟨_,k0⟩:=AC (g:=g) (i:=2) (u:=x2) k0;obtain⟨_,k1⟩:=AC (g:=g) (i:=0) (u:=x0) h.2.2.2.2.2.1;obtain⟨_,k1⟩:=AC (g:=g) (i:=1) (u:=x1) k1;obtain⟨_,k1⟩:=AC (g:=g) (i:=2) (u:=x2) k1;obtain⟨_,k2⟩:=AC (g:=g) (i:=0) (u:=x0) h.2.2.2.2.2.2.1;obtain⟨_,k2⟩:=AC (g:=g) (i:=1) (u:=x1) k2;obtain⟨_,k2⟩:=AC (g:=g) (i:=2) (u:=x2) k2;exact⟨(((h.1.setCell hg _).setCell hg _).setCell hg _),(Al (Al (Al h.2.1 n0) n0) n0),(Al (Al (Al h.2.2.1 n1) n1) n1),(Al (Al (Al h.2.2.2.1 n2) n2) n2),Ae k0,Ae k1,Ae k2,(AY (AY (AY h.2.2.2.2.2.2.2.1))),(AY (AY (AY h.2.2.2.2.2.2.2.2.1))),(AY (AY (AY h.2.2.2.2.2.2.2.2.2)))⟩
theorem GW{w w1 w2:World}{g b0 o0 b1 o1 b2 o2 b3 o3 b4 o4:Nat}{u0 u1 u2 u3 u4:Value}(h:Ext w w1/\w1.cell? ⟨b0,o0,none⟩=some u0/\w1.cell? ⟨b1,o1,none⟩=some u1/\w1.cell? ⟨b2,o2,none⟩=some u2/\w1.cell? ⟨b3,o3,none⟩=some u3/\w1.cell? ⟨b4,o4,none⟩=some u4/\w1.cell? ⟨g,0,none⟩=some (was w1 g 0)/\w1.cell? ⟨g,1,none⟩=some (was w1 g 1)/\w1.cell? ⟨g,2,none⟩=some (was w1 g 2)/\w1.frozen? ⟨g,0,none⟩=false/\w1.frozen? ⟨g,1,none⟩=false/\w1.frozen? ⟨g,2,none⟩=false)(hx:Ext w1 w2):Ext w w2/\w2.cell? ⟨b0,o0,none⟩=some u0/\w2.cell? ⟨b1,o1,none⟩=some u1/\w2.cell? ⟨b2,o2,none⟩=some u2/\w2.cell? ⟨b3,o3,none⟩=some u3/\w2.cell? ⟨b4,o4,none⟩=some u4/\w2.cell? ⟨g,0,none⟩=some (was w2 g 0)/\w2.cell? ⟨g,1,none⟩=some (was w2 g 1)/\w2.cell? ⟨g,2,none⟩=some (was w2 g 2)/\w2.frozen? ⟨g,0,none⟩=false/\w2.frozen? ⟨g,1,none⟩=false/\w2.frozen? ⟨g,2,none⟩=false:=
 ⟨h.1.trans hx,hx.keep h.2.1,hx.keep h.2.2.1,hx.keep h.2.2.2.1,hx.keep h.2.2.2.2.1,hx.keep h.2.2.2.2.2.1,Ae (hx.keep h.2.2.2.2.2.2.1),Ae (hx.keep h.2.2.2.2.2.2.2.1),Ae (hx.keep h.2.2.2.2.2.2.2.2.1),hx.keepf h.2.2.2.2.2.2.1 h.2.2.2.2.2.2.2.2.2.1,hx.keepf h.2.2.2.2.2.2.2.1 h.2.2.2.2.2.2.2.2.2.2.1,hx.keepf h.2.2.2.2.2.2.2.2.1 h.2.2.2.2.2.2.2.2.2.2.2⟩
theorem DV{w w1:World}{g b0 o0 b1 o1 b2 o2 b3 o3 b4 o4:Nat}{u0 u1 u2 u3 u4:Value}{x0 x1 x2:Value}(h:Ext w w1/\w1.cell? ⟨b0,o0,none⟩=some u0/\w1.cell? ⟨b1,o1,none⟩=some u1/\w1.cell? ⟨b2,o2,none⟩=some u2/\w1.cell? ⟨b3,o3,none⟩=some u3/\w1.cell? ⟨b4,o4,none⟩=some u4/\w1.cell? ⟨g,0,none⟩=some (was w1 g 0)/\w1.cell? ⟨g,1,none⟩=some (was w1 g 1)/\w1.cell? ⟨g,2,none⟩=some (was w1 g 2)/\w1.frozen? ⟨g,0,none⟩=false/\w1.frozen? ⟨g,1,none⟩=false/\w1.frozen? ⟨g,2,none⟩=false)(hg:w.heap.size<=g)(n0:b0≠g)(n1:b1≠g)(n2:b2≠g)(n3:b3≠g)(n4:b4≠g):Ext w (((w1.setCell ⟨g,0,none⟩ x0).setCell ⟨g,1,none⟩ x1).setCell ⟨g,2,none⟩ x2)/\(((w1.setCell ⟨g,0,none⟩ x0).setCell ⟨g,1,none⟩ x1).setCell ⟨g,2,none⟩ x2).cell? ⟨b0,o0,none⟩=some u0/\(((w1.setCell ⟨g,0,none⟩ x0).setCell ⟨g,1,none⟩ x1).setCell ⟨g,2,none⟩ x2).cell? ⟨b1,o1,none⟩=some u1/\(((w1.setCell ⟨g,0,none⟩ x0).setCell ⟨g,1,none⟩ x1).setCell ⟨g,2,none⟩ x2).cell? ⟨b2,o2,none⟩=some u2/\(((w1.setCell ⟨g,0,none⟩ x0).setCell ⟨g,1,none⟩ x1).setCell ⟨g,2,none⟩ x2).cell? ⟨b3,o3,none⟩=some u3/\(((w1.setCell ⟨g,0,none⟩ x0).setCell ⟨g,1,none⟩ x1).setCell ⟨g,2,none⟩ x2).cell? ⟨b4,o4,none⟩=some u4/\(((w1.setCell ⟨g,0,none⟩ x0).setCell ⟨g,1,none⟩ x1).setCell ⟨g,2,none⟩ x2).cell? ⟨g,0,none⟩=some (was (((w1.setCell ⟨g,0,none⟩ x0).setCell ⟨g,1,none⟩ x1).setCell ⟨g,2,none⟩ x2) g 0)/\(((w1.setCell ⟨g,0,none⟩ x0).setCell ⟨g,1,none⟩ x1).setCell ⟨g,2,none⟩ x2).cell? ⟨g,1,none⟩=some (was (((w1.setCell ⟨g,0,none⟩ x0).setCell ⟨g,1,none⟩ x1).setCell ⟨g,2,none⟩ x2) g 1)/\(((w1.setCell ⟨g,0,none⟩ x0).setCell ⟨g,1,none⟩ x1).setCell ⟨g,2,none⟩ x2).cell? ⟨g,2,none⟩=some (was (((w1.setCell ⟨g,0,none⟩ x0).setCell ⟨g,1,none⟩ x1).setCell ⟨g,2,none⟩ x2) g 2)/\(((w1.setCell ⟨g,0,none⟩ x0).setCell ⟨g,1,none⟩ x1).setCell ⟨g,2,none⟩ x2).frozen? ⟨g,0,none⟩=false/\(((w1.setCell ⟨g,0,none⟩ x0).setCell ⟨g,1,none⟩ x1).setCell ⟨g,2,none⟩ x2).frozen? ⟨g,1,none⟩=false/\(((w1.setCell ⟨g,0,none⟩ x0).setCell ⟨g,1,none⟩ x1).setCell ⟨g,2,none⟩ x2).frozen? ⟨g,2,none⟩=false:=by
 obtain⟨_,k0⟩:=AC (g:=g) (i:=0) (u:=x0) h.2.2.2.2.2.2.1;obtain⟨_,k0⟩:=AC (g:=g) (i:=1) (u:=x1) k0;obtain⟨_,k0⟩:=AC (g:=g) (i:=2) (u:=x2) k0;obtain⟨_,k1⟩:=AC (g:=g) (i:=0) (u:=x0) h.2.2.2.2.2.2.2.1;obtain⟨_,k1⟩:=AC (g:=g) (i:=1) (u:=x1) k1;obtain⟨_,k1⟩:=AC (g:=g) (i:=2) (u:=x2) k1;obtain⟨_,k2⟩:=AC (g:=g) (i:=0) (u:=x0) h.2.2.2.2.2.2.2.2.1;obtain⟨_,k2⟩:=AC (g:=g) (i:=1) (u:=x1) k2;obtain⟨_,k2⟩:=AC (g:=g) (i:=2) (u:=x2) k2;exact⟨(((h.1.setCell hg _).setCell hg _).setCell hg _),(Al (Al (Al h.2.1 n0) n0) n0),(Al (Al (Al h.2.2.1 n1) n1) n1),(Al (Al (Al h.2.2.2.1 n2) n2) n2),(Al (Al (Al h.2.2.2.2.1 n3) n3) n3),(Al (Al (Al h.2.2.2.2.2.1 n4) n4) n4),Ae k0,Ae k1,Ae k2,(AY (AY (AY h.2.2.2.2.2.2.2.2.2.1))),(AY (AY (AY h.2.2.2.2.2.2.2.2.2.2.1))),(AY (AY (AY h.2.2.2.2.2.2.2.2.2.2.2)))⟩
theorem Dg{w w1 w2:World}{g b0 o0 b1 o1 b2 o2 b3 o3 b4 o4 b5 o5:Nat}{u0 u1 u2 u3 u4 u5:Value}(h:Ext w w1/\w1.cell? ⟨b0,o0,none⟩=some u0/\w1.cell? ⟨b1,o1,none⟩=some u1/\w1.cell? ⟨b2,o2,none⟩=some u2/\w1.cell? ⟨b3,o3,none⟩=some u3/\w1.cell? ⟨b4,o4,none⟩=some u4/\w1.cell? ⟨b5,o5,none⟩=some u5/\w1.cell? ⟨g,0,none⟩=some (was w1 g 0)/\w1.cell? ⟨g,1,none⟩=some (was w1 g 1)/\w1.cell? ⟨g,2,none⟩=some (was w1 g 2)/\w1.frozen? ⟨g,0,none⟩=false/\w1.frozen? ⟨g,1,none⟩=false/\w1.frozen? ⟨g,2,none⟩=false)(hx:Ext w1 w2):Ext w w2/\w2.cell? ⟨b0,o0,none⟩=some u0/\w2.cell? ⟨b1,o1,none⟩=some u1/\w2.cell? ⟨b2,o2,none⟩=some u2/\w2.cell? ⟨b3,o3,none⟩=some u3/\w2.cell? ⟨b4,o4,none⟩=some u4/\w2.cell? ⟨b5,o5,none⟩=some u5/\w2.cell? ⟨g,0,none⟩=some (was w2 g 0)/\w2.cell? ⟨g,1,none⟩=some (was w2 g 1)/\w2.cell? ⟨g,2,none⟩=some (was w2 g 2)/\w2.frozen? ⟨g,0,none⟩=false/\w2.frozen? ⟨g,1,none⟩=false/\w2.frozen? ⟨g,2,none⟩=false:=
 ⟨h.1.trans hx,hx.keep h.2.1,hx.keep h.2.2.1,hx.keep h.2.2.2.1,hx.keep h.2.2.2.2.1,hx.keep h.2.2.2.2.2.1,hx.keep h.2.2.2.2.2.2.1,Ae (hx.keep h.2.2.2.2.2.2.2.1),Ae (hx.keep h.2.2.2.2.2.2.2.2.1),Ae (hx.keep h.2.2.2.2.2.2.2.2.2.1),hx.keepf h.2.2.2.2.2.2.2.1 h.2.2.2.2.2.2.2.2.2.2.1,hx.keepf h.2.2.2.2.2.2.2.2.1 h.2.2.2.2.2.2.2.2.2.2.2.1,hx.keepf h.2.2.2.2.2.2.2.2.2.1 h.2.2.2.2.2.2.2.2.2.2.2.2⟩
theorem BT{w w1:World}{g b0 o0 b1 o1 b2 o2 b3 o3 b4 o4 b5 o5:Nat}{u0 u1 u2 u3 u4 u5:Value}{x0 x1 x2:Value}(h:Ext w w1/\w1.cell? ⟨b0,o0,none⟩=some u0/\w1.cell? ⟨b1,o1,none⟩=some u1/\w1.cell? ⟨b2,o2,none⟩=some u2/\w1.cell? ⟨b3,o3,none⟩=some u3/\w1.cell? ⟨b4,o4,none⟩=some u4/\w1.cell? ⟨b5,o5,none⟩=some u5/\w1.cell? ⟨g,0,none⟩=some (was w1 g 0)/\w1.cell? ⟨g,1,none⟩=some (was w1 g 1)/\w1.cell? ⟨g,2,none⟩=some (was w1 g 2)/\w1.frozen? ⟨g,0,none⟩=false/\w1.frozen? ⟨g,1,none⟩=false/\w1.frozen? ⟨g,2,none⟩=false)(hg:w.heap.size<=g)(n0:b0≠g)(n1:b1≠g)(n2:b2≠g)(n3:b3≠g)(n4:b4≠g)(n5:b5≠g):Ext w (((w1.setCell ⟨g,0,none⟩ x0).setCell ⟨g,1,none⟩ x1).setCell ⟨g,2,none⟩ x2)/\(((w1.setCell ⟨g,0,none⟩ x0).setCell ⟨g,1,none⟩ x1).setCell ⟨g,2,none⟩ x2).cell? ⟨b0,o0,none⟩=some u0/\(((w1.setCell ⟨g,0,none⟩ x0).setCell ⟨g,1,none⟩ x1).setCell ⟨g,2,none⟩ x2).cell? ⟨b1,o1,none⟩=some u1/\(((w1.setCell ⟨g,0,none⟩ x0).setCell ⟨g,1,none⟩ x1).setCell ⟨g,2,none⟩ x2).cell? ⟨b2,o2,none⟩=some u2/\(((w1.setCell ⟨g,0,none⟩ x0).setCell ⟨g,1,none⟩ x1).setCell ⟨g,2,none⟩ x2).cell? ⟨b3,o3,none⟩=some u3/\(((w1.setCell ⟨g,0,none⟩ x0).setCell ⟨g,1,none⟩ x1).setCell ⟨g,2,none⟩ x2).cell? ⟨b4,o4,none⟩=some u4/\(((w1.setCell ⟨g,0,none⟩ x0).setCell ⟨g,1,none⟩ x1).setCell ⟨g,2,none⟩ x2).cell? ⟨b5,o5,none⟩=some u5/\(((w1.setCell ⟨g,0,none⟩ x0).setCell ⟨g,1,none⟩ x1).setCell ⟨g,2,none⟩ x2).cell? ⟨g,0,none⟩=some (was (((w1.setCell ⟨g,0,none⟩ x0).setCell ⟨g,1,none⟩ x1).setCell ⟨g,2,none⟩ x2) g 0)/\(((w1.setCell ⟨g,0,none⟩ x0).setCell ⟨g,1,none⟩ x1).setCell ⟨g,2,none⟩ x2).cell? ⟨g,1,none⟩=some (was (((w1.setCell ⟨g,0,none⟩ x0).setCell ⟨g,1,none⟩ x1).setCell ⟨g,2,none⟩ x2) g 1)/\(((w1.setCell ⟨g,0,none⟩ x0).setCell ⟨g,1,none⟩ x1).setCell ⟨g,2,none⟩ x2).cell? ⟨g,2,none⟩=some (was (((w1.setCell ⟨g,0,none⟩ x0).setCell ⟨g,1,none⟩ x1).setCell ⟨g,2,none⟩ x2) g 2)/\(((w1.setCell ⟨g,0,none⟩ x0).setCell ⟨g,1,none⟩ x1).setCell ⟨g,2,none⟩ x2).frozen? ⟨g,0,none⟩=false/\(((w1.setCell ⟨g,0,none⟩ x0).setCell ⟨g,1,none⟩ x1).setCell ⟨g,2,none⟩ x2).frozen? ⟨g,1,none⟩=false/\(((w1.setCell ⟨g,0,none⟩ x0).setCell ⟨g,1,none⟩ x1).setCell ⟨g,2,none⟩ x2).frozen? ⟨g,2,none⟩=false:=by
 obtain⟨_,k0⟩:=AC (g:=g) (i:=0) (u:=x0) h.2.2.2.2.2.2.2.1;obtain⟨_,k0⟩:=AC (g:=g) (i:=1) (u:=x1) k0;obtain⟨_,k0⟩:=AC (g:=g) (i:=2) (u:=x2) k0;obtain⟨_,k1⟩:=AC (g:=g) (i:=0) (u:=x0) h.2.2.2.2.2.2.2.2.1;obtain⟨_,k1⟩:=AC (g:=g) (i:=1) (u:=x1) k1;obtain⟨_,k1⟩:=AC (g:=g) (i:=2) (u:=x2) k1;obtain⟨_,k2⟩:=AC (g:=g) (i:=0) (u:=x0) h.2.2.2.2.2.2.2.2.2.1;obtain⟨_,k2⟩:=AC (g:=g) (i:=1) (u:=x1) k2;obtain⟨_,k2⟩:=AC (g:=g) (i:=2) (u:=x2) k2;exact⟨(((h.1.setCell hg _).setCell hg _).setCell hg _),(Al (Al (Al h.2.1 n0) n0) n0),(Al (Al (Al h.2.2.1 n1) n1) n1),(Al (Al (Al h.2.2.2.1 n2) n2) n2),(Al (Al (Al h.2.2.2.2.1 n3) n3) n3),(Al (Al (Al h.2.2.2.2.2.1 n4) n4) n4),(Al (Al (Al h.2.2.2.2.2.2.1 n5) n5) n5),Ae k0,Ae k1,Ae k2,(AY (AY (AY h.2.2.2.2.2.2.2.2.2.2.1))),(AY (AY (AY h.2.2.2.2.2.2.2.2.2.2.2.1))),(AY (AY (AY h.2.2.2.2.2.2.2.2.2.2.2.2)))⟩
theorem AO{w:World}{p q:Addr}{v u:Value}(h:(w.setCell p v).cell? q=some u):∃u',w.cell? q=some u':=by
 by_cases e:p=q
 ·subst e;cases hc:w.cell? p with
  |some u'=>exact⟨u',rfl⟩
  |none=>
   exfalso
   simp only[World.setCell,World.cell?,Array.getElem?_modify,if_true]at h;unfold World.cell? at hc;cases hb:w.heap[p.block]? with
   |none=>rw[hb]at h;simp at h
   |some x=>
    rw[hb]at h hc;cases x with
    |cells c t f=>
     simp at h hc;split at h
     ·simp_all
     ·obtain⟨hs,h⟩:=h;have fC:=hc hs;rw[qbg (by simpa using fC)]at h;cases h
    |_=>simp at h
 ·rw[World.cell?_setCell_other _ _ _ _ e]at h;exact⟨u,h⟩
theorem Gr{w:World}{g:Nat}{a b u u':Value}(h0:((w.setCell ⟨g,0,none⟩ a).setCell ⟨g,1,none⟩ b).cell? ⟨g,0,none⟩=some u)(h1:((w.setCell ⟨g,0,none⟩ a).setCell ⟨g,1,none⟩ b).cell? ⟨g,1,none⟩=some u'):
  (w.setCell ⟨g,0,none⟩ a).cell? ⟨g,0,none⟩=some a/\((w.setCell ⟨g,0,none⟩ a).setCell ⟨g,1,none⟩ b).cell? ⟨g,1,none⟩=some b:=by
 obtain⟨_,k0⟩:=AO h0;obtain⟨_,k0⟩:=AO k0;obtain⟨_,k1⟩:=AO h1;exact⟨World.cell?_setCell_same _ _ _ k0,World.cell?_setCell_same _ _ _ k1⟩
theorem AP.put{w w1 w':World}{g:Nat}{bi:Bool}{m:Value}{z:Int}(hi:AP w1.heap.size w' (.agg #[.bool bi,m]) z)(hg:g<w1.heap.size)(hw:w.heap.size<=w1.heap.size):
  AP w.heap.size ((w'.setCell ⟨g,0,none⟩ (.bool bi)).setCell ⟨g,1,none⟩ m) (.agg #[.bool bi,m]) z:=((hi.far hg _).far hg _).mono hw
theorem F8{g:Nat}(h:0<g):0<(Ac g).length:=qby.2 (fun e=>by rw[Bw]at e;omega)
theorem RH(w:World)(v u:Value)(X Y:Nat)(h:Arr w v (Ac X))(h':Arr w u (Ac Y))(hn:(Ac X).length<=134217728)(bA:(Ac Y).length<=134217728):
  Calls Tryz.prog 167 #[v,u] w fun e w'=>∃v',e= .returned v'/\Arr w' v' (Ac (Nat.gcd X Y))/\Ext w w':=by
 have HA:=J h;have HB:=J h';obtain⟨n1,A1,c1,rfl⟩:=h.shape;obtain⟨n2,A2,c2,rfl⟩:=h'.shape;clear h h';go_enter Tryz.func167,Tryz.ntmps167;go_wp2_with fail
 go_loopg [0,1] Y (fun gh s0 s1 wr=>∃(g x:Nat) (na:Nat) (Aa:Option Addr) (ca nb:Nat) (Ab:Option Addr) (cb:Nat),gh=g/\s0= .slice Aa na ca/\s1= .slice Ab nb cb/\Arr wr s0 (Ac x)/\Arr wr s1 (Ac g)/\Nat.gcd x g=Nat.gcd X Y/\(Ac x).length<=134217728/\(Ac g).length<=134217728/\Ext w wr)
 case atStart=>exact⟨Y,X,n1,A1,c1,n2,A2,c2,rfl,rfl,rfl,HA.o,HB.o,rfl,hn,bA,Ext.refl _⟩
 case round=>
  obtain⟨g,x,na,Aa,ca,nb,Ab,cb,jO,rfl,rfl,oj,oi,hg,hlx,sC,ae⟩:=hrel;have jD:=J jO;have HG:=J hg;have mu:=J ae;have WP:=J oi;have hnb:=oi.len;clear jO hg ae HA HB;rcases qag g with h0|h0
  ·subst h0;rw[Be,qaZ]at hnb;subst hnb;have HV:Hid (Arr wr (.slice Aa na ca) (Ac (Nat.gcd X Y))):=J (by
    have h1:=HG.o;rw[Nat.gcd_zero_right]at h1;rw[<-h1];exact oj)
   clear oj oi;go_wp2_with fail;go_ret;exact⟨_,rfl,HV.o,mu.o⟩
  ·have hl1:0<nb:=by rw[hnb];exact F8 h0
   have HD:=J (Iq wr _ _ _ _ oj oi hlx sC (by rw[Ad];exact h0));rw[Ad,Ad]at HD;have gU:=qba x h0;have zT:=qae (Ay (qaK gU)) sC;have lq:=J (show Nat.gcd g (x % g)=Nat.gcd X Y by rw[<-MQ,HG.o]);have hb0:(0:Int)<(nb:Int):=by omega
   clear oj oi hnb;go_wp2_with fail;refine HD.o.mono ?_
   rintro e w3 ⟨v3,u3,rfl,od,bx,ab⟩;have be:=J (WP.o.ext ab);have eX:=J bx;have aE:=J (mu.o.trans ab);obtain⟨n3,A3,c3,rfl⟩:=od.arr.2.shape;obtain⟨n4,A4,c4,rfl⟩:=bx.2.shape;clear od bx ab;go_wp2_with fail
   go_roundg (x % g)
   case rel=>exact⟨x % g,g,nb,Ab,cb,n4,A4,c4,rfl,rfl,rfl,be.o,eX.o,lq.o,sC,zT,aE.o⟩
   case measure=>rw[jD.o];exact gU
theorem Mh(w:World)(v u:Value)(X Y:Nat)(h:Arr w v (Ac X))(h':Arr w u (Ac Y))(hn:(Ac X).length<=134217728)(bA:(Ac Y).length<=134217728)(hy:0<Y):
  Calls Tryz.prog 168 #[v,u] w fun e w'=>∃v',e= .returned v'/\Own w.heap.size w' v' (Ac (X / Y))/\Ext w w':=by
 have HD:=J (Iq w v u _ _ h h' hn bA (by rw[Ad];exact hy));rw[Ad,Ad]at HD;clear h h';go_enter Tryz.func168,Tryz.ntmps168;go_wp2_with fail;refine HD.o.mono ?_
 rintro e w3 ⟨v3,u3,rfl,od,bx,ab⟩;have HQ3:=J od;have aE:=J ab;obtain⟨n3,A3,c3,rfl⟩:=od.arr.2.shape;obtain⟨n4,A4,c4,rfl⟩:=bx.2.shape;clear od bx ab;go_wp2_with fail;go_ret;exact⟨_,rfl,HQ3.o,aE.o⟩
theorem Ll(w:World)(v:Value)(A:Option Addr)(c:Nat):
  Calls Tryz.prog 121 #[v,.slice A 0 c] w fun e w'=>e= .returned (.tuple #[.slice none 0 0,.slice none 0 0,.bool false])/\w=w':=by
 go_enter Tryz.func121,Tryz.ntmps121;go_wp2_with fail;go_ret3;exact⟨rfl,rfl⟩
def S0(X Y:Nat)(w:World)(e:Ending)(w':World):Prop:=
 ∃v' u',e= .returned (.tuple #[v',u',.bool true])/\Own w.heap.size w' v' (Ac (X / Nat.gcd X Y))/\Own w.heap.size w' u' (Ac (Y / Nat.gcd X Y))/\Ext w w'
theorem Mg(w:World)(v u:Value)(X Y:Nat)(h:Arr w v (Ac X))(h':Arr w u (Ac Y))(hn:(Ac X).length<=134217728)(bA:(Ac Y).length<=134217728)(hy:0<Y):
  Calls Tryz.prog 121 #[v,u] w (S0 X Y w):=by
 have HG:=J (RH w v u X Y h h' hn bA);have oz:0<Nat.gcd X Y:=Nat.gcd_pos_of_pos_right _ hy;have eZ:(Ac (Nat.gcd X Y)).length<=134217728:=qae (Ay (Nat.gcd_le_right _ hy)) bA;have gP:=J (fun W z hx a=>Mh W v z X (Nat.gcd X Y) (h.ext hx) a hn eZ oz);have nL:=J (fun W z hx a=>Mh W u z Y (Nat.gcd X Y) (h'.ext hx) a bA eZ oz);obtain⟨nv,Av,cv,rfl⟩:=h.shape;obtain⟨nu,Au,cu,rfl⟩:=h'.shape;have hl:=h'.len;have gW:=F8 hy;rw[<-hl]at gW;have kF:((nu:Int) == 0)=false:=by rw[beq_eq_false_iff_ne];omega
 clear h h' hn bA eZ hl oz gW;go_enter Tryz.func121,Tryz.ntmps121;go_wp2_with fail;refine HG.o.mono ?_
 rintro e w1 ⟨v1,rfl,dM,ak⟩;have au:=J ak;have fN:=J dM;obtain⟨n1,A1,c1,rfl⟩:=dM.2.shape;clear dM ak;go_wp2_with fail;refine(gP.o _ _ au.o fN.o).mono ?_
 rintro e w2 ⟨v2,rfl,de,ah⟩;have aR:=J (au.o.trans ah);have em:=J (de.mono au.o.size);have m9:=J (fN.o.ext ah);obtain⟨n2,A2,c2,rfl⟩:=de.shape;clear de ah;go_wp2_with fail;refine(nL.o _ _ aR.o m9.o).mono ?_
 rintro e w3 ⟨v3,rfl,jc,ab⟩;have aE:=J (aR.o.trans ab);have pQ:=J (jc.mono aR.o.size);have tX:=J (em.o.ext ab);obtain⟨n3,A3,c3,rfl⟩:=jc.shape;clear jc ab;go_wp2_with fail;go_ret3;exact⟨_,_,rfl,tX.o,pQ.o,aE.o⟩
def GT(x y:Int):Int:=sgn (decide (x<0) != decide (y<0)) (x.natAbs / Nat.gcd x.natAbs y.natAbs)
def GU(x y:Int):Nat:=y.natAbs / Nat.gcd x.natAbs y.natAbs
theorem NS(w:World)(v u:Value)(x:Int)(h:Ap w v x)(h':Ap w u 0):
  Calls Tryz.prog 63 #[v,u] w fun e w'=>∃v',e= .returned (.tuple #[v',.int .i64 2])/\Ag w.heap.size w' v' 0 0/\Ext w w':=by
 obtain⟨b,n,A,c,rfl⟩:=h.shape;obtain⟨b',n',A',c',rfl⟩:=h'.shape;have hl:=h'.mag.len;rw[show (0:Int).natAbs=0 from rfl,Be,qaZ]at hl;subst hl;clear h h';go_enter Tryz.func63,Tryz.ntmps63;go_wp2_with fail;refine(Ll _ _ _ _).mono ?_
 rintro e w1 ⟨rfl,rfl⟩;go_wp2_with fail;refine bodyPost_ret (v:= .tuple #[.agg #[.bool false,.slice none 0 0,.slice none 0 0],.int .i64 2]) (by simp[results,Tryz.results63,go_sem]) rfl ?_
 exact⟨_,rfl,Ag.zero _ _,(((Ext.refl w).alloc _).alloc _).alloc _⟩
theorem KA(w:World)(v u:Value)(x y:Int)(h:Ap w v x)(h':Ap w u y)(hn:(Ac x.natAbs).length<=134217728)(bA:(Ac y.natAbs).length<=134217728)(hy:y≠0):
  Calls Tryz.prog 63 #[v,u] w fun e w'=>∃v',e= .returned (.tuple #[v',.int .i64 0])/\Ag w.heap.size w' v' (GT x y) (GU x y)/\Ext w w':=by
 obtain⟨b,n,A,c,rfl⟩:=h.shape;obtain⟨b',n',A',c',rfl⟩:=h'.shape;have HL:=J (fun W hx=>Mg W (.slice A n c) (.slice A' n' c') x.natAbs y.natAbs (h.mag.ext hx) (h'.mag.ext hx) hn bA (by omega));have HI:=J (fun W m a=>Cg W (b != b') m (Ac (x.natAbs / Nat.gcd x.natAbs y.natAbs)) a (qae (Ay (qbs _ _)) (by omega)));rw[Ad]at HI;have HS:=J h.sign;have HS':=J h'.sign;clear h h' hn bA;go_enter Tryz.func63,Tryz.ntmps63;go_wp2_with fail;have hb0:=((Blk.new w 24 #[.bool b,.slice A n c]).alloc (.cells #[.bool b',.slice A' n' c'] 24)).alloc (.cells #[.bool false,.slice none 0 0,.slice none 0 0] 26);have am:=(Blk.new (w.alloc (.cells #[.bool b,.slice A n c] 24)) 24 #[.bool b',.slice A' n' c']).alloc (.cells #[.bool false,.slice none 0 0,.slice none 0 0] 26);have hb2:=Blk.new ((w.alloc (.cells #[.bool b,.slice A n c] 24)).alloc (.cells #[.bool b',.slice A' n' c'] 24)) 26 #[.bool false,.slice none 0 0,.slice none 0 0];have az:=(((Ext.refl w).alloc (.cells #[.bool b,.slice A n c] 24)).alloc (.cells #[.bool b',.slice A' n' c'] 24)).alloc (.cells #[.bool false,.slice none 0 0,.slice none 0 0] 26);have aq:w.heap.size+1+1<(((w.alloc (.cells #[.bool b,.slice A n c] 24)).alloc (.cells #[.bool b',.slice A' n' c'] 24)).alloc (.cells #[.bool false,.slice none 0 0,.slice none 0 0] 26)).heap.size:=by simp
 simp only[World.size_alloc]at am hb2;generalize ((w.alloc (.cells #[.bool b,.slice A n c] 24)).alloc (.cells #[.bool b',.slice A' n' c'] 24)).alloc (.cells #[.bool false,.slice none 0 0,.slice none 0 0] 26)=wo at *;refine(HL.o _ az).mono ?_
 rintro e w1 ⟨v1,u1,rfl,dM,ac,ak⟩;have mm:=hb0.ext ak;have fJ:=am.ext ak;have hk2:=hb2.ext ak;have fN:=J dM;have qA:=J ac;obtain⟨n1,A1,c1,rfl⟩:=dM.shape;obtain⟨n2,A2,c2,rfl⟩:=ac.shape;obtain⟨h0,h1,_,_,_⟩:=mm.two;obtain⟨h2,h3,_,_,_⟩:=fJ.two;have nK:=J hk2;have au:=J (az.trans ak);have oY:=J ak.size;clear hb0 am hb2 ak dM ac mm fJ hk2 az;go_wp2_with fail;refine(HI.o _ _ fN.o.arr).mono ?_
 rintro e w2 ⟨v2,rfl,ay,ah⟩;have ic:=J ay;have hJ:=J (qA.o.ext ah);have fJ:=nK.o.ext ah;obtain⟨b3,n3,A3,c3,rfl⟩:=ay.shape;have k0:=fJ.three;have aR:=J (au.o.trans ah);have ft:=J fJ;clear ay ah fJ;go_wp2_with fail;obtain⟨ai,ac,hr2⟩:=Aj ft.o (.bool b3) (.slice A3 n3 c3) (.slice A2 n2 c2);refine bodyPost_ret (v:= .tuple #[.agg #[.bool b3,.slice A3 n3 c3,.slice A2 n2 c2],.int .i64 0]) (by simp[results,Tryz.results63,go_sem,ai,ac,hr2]) rfl ?_
 have dQ:Ag wo.heap.size w2 (.agg #[.bool b3,.slice A3 n3 c3,.slice A2 n2 c2]) (GT x y) (GU x y):=Ag.mk (by
  have h1:=ic.o.mono oY.o;rw[HS.o,HS'.o]at h1;exact h1) hJ.o
 exact⟨_,rfl,dQ.put aq (by omega),((aR.o.setCell (by show _<=w.heap.size+1+1;omega) _).setCell (by show _<=w.heap.size+1+1;omega) _).setCell (by show _<=w.heap.size+1+1;omega) _⟩
theorem Md(w:World)(v u:Value)(x y:Int)(h:Ap w v x)(h':Ap w u y)(hn:(Ac x.natAbs).length<=134217728)(bA:(Ac y.natAbs).length<=134217728)(hy:y≠0):
  Calls Tryz.prog 118 #[v,u] w fun e w'=>∃v',e= .returned v'/\Ag w.heap.size w' v' (GT x y) (GU x y)/\Ext w w':=by
 have HA:=J h;have HB:=J h';obtain⟨b,n,A,c,rfl⟩:=h.shape;obtain⟨b',n',A',c',rfl⟩:=h'.shape;have HM:=J (fun W hx=>KA W _ _ x y (h.ext hx) (h'.ext hx) hn bA hy);clear h h' hn bA;go_enter Tryz.func118,Tryz.ntmps118;go_wp2_with fail;have hb2:=Blk.new ((w.alloc (.cells #[.bool b,.slice A n c] 24)).alloc (.cells #[.bool b',.slice A' n' c'] 24)) 26 #[.bool false,.slice none 0 0,.slice none 0 0];have az:=(((Ext.refl w).alloc (.cells #[.bool b,.slice A n c] 24)).alloc (.cells #[.bool b',.slice A' n' c'] 24)).alloc (.cells #[.bool false,.slice none 0 0,.slice none 0 0] 26);simp only[World.size_alloc]at hb2;generalize ((w.alloc (.cells #[.bool b,.slice A n c] 24)).alloc (.cells #[.bool b',.slice A' n' c'] 24)).alloc (.cells #[.bool false,.slice none 0 0,.slice none 0 0] 26)=wo at *;refine(HM.o _ az).mono ?_
 rintro e w1 ⟨v1,rfl,dM,ak⟩;have fN:=J dM;obtain⟨b1,n1,A1,c1,n2,A2,c2,rfl⟩:=dM.shape;have hk2:=hb2.ext ak;have HK:=J hk2;have au:=J (az.trans ak);have oY:=J ak.size;have o7:=J hb2.lt;have k0:=hk2.three;clear dM ak hk2 hb2 az;go_wp2_with fail;obtain⟨ai,ac,hr2⟩:=Aj HK.o (.bool b1) (.slice A1 n1 c1) (.slice A2 n2 c2);obtain⟨cx,cB,jI,_⟩:=((((HK.o.set_ 0 (.bool b1)).set_ 1 (.slice A1 n1 c1)).set_ 2 (.slice A2 n2 c2)).alloc (.cells #[.bool b1,.slice A1 n1 c1,.slice A2 n2 c2] 26)).three;refine bodyPost_ret (v:= .agg #[.bool b1,.slice A1 n1 c1,.slice A2 n2 c2]) (by simp[results,Tryz.results118,go_sem,cx,cB,jI]) rfl ?_
 have dQ:=(fN.o.put (w:=w) o7.o (by have:=o7.o;omega)).ext ((Ext.refl _).alloc (.cells #[.bool b1,.slice A1 n1 c1,.slice A2 n2 c2] 26));exact⟨_,rfl,dQ,(((au.o.setCell (by show _<=w.heap.size+1+1;omega) _).setCell (by show _<=w.heap.size+1+1;omega) _).setCell (by show _<=w.heap.size+1+1;omega) _).alloc _⟩
theorem Rt(w:World)(n:Nat)(hn:n<=100000):
  Calls Tryz.prog 171 #[.int .i64 (n:Int)] w fun e w'=>∃v',e= .returned v'/\AP w.heap.size w' v' ((10 ^ n:Nat):Int)/\Ext w w':=by
 have dG:=J (fun W=>GF W 1 (by decide));rw[show ((1:Nat):Int)=1 from rfl]at dG;have qF:Hid (∀k,k<=n->(Ac (10 ^ k)).length<=100001):=J (fun k hk=>D5 (k:=k+1) (Nat.pow_lt_pow_right (by decide) (by omega)) (by omega));go_enter Tryz.func171,Tryz.ntmps171;go_wp2_with fail;refine(dG.o _).mono ?_
 rintro e w1 ⟨v1,rfl,dM,ak⟩;have ag:=J ((Blk.new w 24 #[.bool false,.slice none 0 0]).ext ak);have au:=J (((Ext.refl w).alloc (.cells #[.bool false,.slice none 0 0] 24)).trans ak);have fN:=J (dM.mono (show w.heap.size+1<=_ by simp));obtain⟨n1,A1,c1,rfl⟩:=dM.arr.2.shape;clear dM ak;go_wp2_with fail;go_loopw [3,6] (fun s3 s6 wr=>∃(k:Nat) (m:Nat) (A:Option Addr) (c:Nat),k<=n/\s6= .int .i64 (k:Int)/\s3= .slice A m c/\Own (w.heap.size+1) wr s3 (Ac (10 ^ k))/\Blk wr w.heap.size 24 #[.bool false,.slice none 0 0]/\Ext w wr) (fun _ s6 _=>n-(intOf s6).toNat)
 case atStart=>exact⟨0,n1,A1,c1,qaj _,rfl,rfl,fN.o,ag.o,au.o⟩
 case round=>
  obtain⟨k,m,A,c,hk,rfl,rfl,ho,hb,hx⟩:=hrel;have HO:=J ho;have HB:=J hb;have HX:=J hx;have cA:=hb.lt;by_cases hlt:k<n
  ·have HS:=J (E4 wr _ _ 10 0 ho.arr (by have:=qF.o k hk;omega) (by decide) (by decide));rw[Ad,qaN,<-qay,show ((10:Nat):Int)=10 from rfl,show ((0:Nat):Int)=0 from rfl]at HS;clear ho hb hx;go_wp2_with fail;refine HS.o.mono ?_
   rintro e w2 ⟨v2,rfl,de,ah⟩;have em:=J (de.mono cA);have ba:=J (HB.o.ext ah);have aR:=J (HX.o.trans ah);obtain⟨n2,A2,c2,rfl⟩:=de.arr.2.shape;clear de ah;go_wp2_with fail;go_roundw
   case rel=>exact⟨k+1,n2,A2,c2,by omega,by go_num,rfl,em.o,ba.o,aR.o⟩
   case measure=>simp[intOf];omega
  ·obtain rfl:k=n:=by omega
   have HI:=J (Cg wr false _ _ ho.arr (by have:=qF.o k hk;omega));rw[Ad]at HI;clear ho hb hx;go_wp2_with fail;refine HI.o.mono ?_
   rintro e w2 ⟨v2,rfl,ay,ah⟩;have ic:=J (ay.mono cA);have hb2:=HB.o.ext ah;have ba:=J hb2;have aR:=J (HX.o.trans ah);obtain⟨b2,n2,A2,c2,rfl⟩:=ay.shape;have k0:=hb2.two;clear ay ah hb2;go_wp2_with fail;obtain⟨ai,ac⟩:=B7 ba.o (.bool b2) (.slice A2 n2 c2);refine bodyPost_ret (v:= .agg #[.bool b2,.slice A2 n2 c2]) (by simp[results,Tryz.results171,go_sem,ai,ac]) rfl ?_
   have hst:=AP.stored ba.o ic.o (Nat.lt_succ_self _) aR.o (qab _);exact⟨_,rfl,hst⟩
def UJ(w:World)(l:List UInt8)(e:Ending)(w':World):Prop:=
 ∃a b:List UInt8,e= .returned (.tuple #[str a,str b,.bool (CO l)])/\(CO l=true->a=whole l/\b=Bb l)/\Ext w w'
theorem O0{l:List UInt8}{k:Nat}(h:AE l=true)(hk:l.length=k+1):(Bb l=[]->Af l k=46)/\(Bb l≠[]->((Bb l).getLast? == some 48)=((Af l k:Int) == 48)):=by
 rcases Ck l with ⟨_,h2⟩|⟨h1,_⟩
 ·have hg:Af l k=Af (whole l++46::Bb l) k:=congrArg (fun z=>Af z k) h2;have aH:=congrArg List.length h2;rw[qac,qaC,hk]at aH;constructor
  ·intro hp;rw[hg];rw[hp]at aH ⊢;simp only[qaZ]at aH;unfold Af;rw[qaa,qai (by omega),show k-(whole l).length=0 by omega];rfl
  ·intro hp;obtain⟨j,hj⟩:∃j,(Bb l).length=j+1:=⟨(Bb l).length-1,by have:=qby.2 hp;omega⟩;rw[KX (Bb l) j hj,hg];have:Af (whole l++46::Bb l) k=Af (Bb l) j:=by
    unfold Af;rw[qaa,qaa,qai (by omega),show k-(whole l).length=j+1 by omega,qcw]
   rw[this]
 ·rw[h]at h1;cases h1
theorem JA{l:List UInt8}{k:Nat}(ha:DM l=true)(h:AE l=true)(hp:Bb l≠[])(hk:l.length=k+1):48<=Af l k:=by
 rcases Ck l with ⟨_,h2⟩|⟨h1,_⟩
 ·have hg:Af l k=Af (whole l++46::Bb l) k:=congrArg (fun z=>Af z k) h2;have aH:=congrArg List.length h2;rw[qac,qaC,hk]at aH;obtain⟨j,hj⟩:∃j,(Bb l).length=j+1:=⟨(Bb l).length-1,by have:=qby.2 hp;omega⟩;have h3:Af (whole l++46::Bb l) k=Af (Bb l) j:=by
   unfold Af;rw[qaa,qaa,qai (by omega),show k-(whole l).length=j+1 by omega,qcw]
  rw[hg,h3,BG _ _ (by omega)];have h4:BA (Bb l)[j]=true:=by
   unfold DM at ha;rw[qcC,qaT]at ha;exact qbR.1 ha.2 _ (qaw _)
  unfold BA at h4;simp only[qaT,decide_eq_true_eq]at h4;exact h4.1
 ·rw[h]at h1;cases h1
theorem MR{l:List UInt8}(h:0<(whole l).length):((whole l)[0]? == some 48)=((Af l 0:Int) == 48):=by
 obtain⟨k,hk⟩:∃k,(whole l).length=k+1:=⟨(whole l).length-1,by omega⟩;rw[Gq (whole l) k hk];have:Af (whole l) 0=Af l 0:=by
  have h1:=Gc l;rw[<-h1];unfold Af;rw[qaa,qaa,qcv h]
 rw[this]
theorem Lm(w:World)(l:List UInt8)(hl:l.length<=1073741824):
  Calls Tryz.prog 169 #[str l] w (UJ w l):=by
 go_enter Tryz.func169,Tryz.ntmps169;go_wp2_with fail;go_loopw [5,6] (fun s5 s6 wr=>∃i p:Nat,i<=l.length/\s6= .int .i64 (i:Int)/\s5= .int .i64 (p:Int)/\Hid (DM (l.take i)=true)/\Hid (p=if AE (l.take i) then (whole l).length else l.length)/\w=wr) (fun _ s6 _=>l.length-(intOf s6).toNat)
 case atStart=>exact⟨0,l.length,qaj _,rfl,rfl,J (by rw[qbw];rfl),J (by rw[qbw];rfl),rfl⟩
 case round=>
  obtain⟨i,p,hi,rfl,rfl,HA,HP,rfl⟩:=hrel;by_cases hlt:i<l.length
  ·have hst:=PT hlt HA.o;have fM:=BG l i hlt;have ge:=J hst.1;have lM:=J hst.2;have HFD:=J (QE l i hlt);have HDT:=J (MS (l:=l) (j:=i));have aF:Hid (DM (l.take (i+1))=false->CO l=false):=J (fun h=>by rw[Cy,RJ h,Bool.and_false]);have fd:=CR l i;clear hst;generalize l[i]=c at *;have wH:(c == 46)=((Af l i:Int) == 46):=by
    rw[fM,qaM];simp only[beq_iff_eq];constructor
    ·intro e;rw[e];rfl
    ·intro e;apply qcA.1;have:c.toNat=46:=by omega
     rw[this];rfl
   have yd:BA c=(decide (48<=Af l i) && decide (Af l i<=57)):=by rw[fM];rfl
   have iY:=J wH;have uk:=J yd;clear wH yd fM;cases hD:AE (l.take i)
   ·have hp:p=l.length:=by rw[HP.o,hD];rfl
    subst hp;cases h46:((Af l i:Int) == 46)
    ·rcases qah (Af l i) 48 with wU|wU
     ·have HG:Hid (CO l=false):=J (aF.o (by rw[ge.o,hD,iY.o,h46,uk.o];simp;omega));have dJ:decide ((Af l i:Int)<48)=true:=by rw[decide_eq_true_iff];omega
      have tf:(Af l i:Int)<48:=by omega
      clear hD;go_wp2_with fail;go_ret3;exact⟨[],[],by rw[HG.o];rfl,(fun h=>by rw[HG.o]at h;cases h),Ext.refl _⟩
     ·have dJ:decide ((Af l i:Int)<48)=false:=by simp;omega
      have tf:¬(Af l i:Int)<48:=by omega
      rcases qah 57 (Af l i) with V7|V7
      ·have HG:Hid (CO l=false):=J (aF.o (by rw[ge.o,hD,iY.o,h46,uk.o];simp;omega));have eH:decide ((57:Int)<(Af l i:Int))=true:=by rw[decide_eq_true_iff];omega
       have te:(57:Int)<(Af l i:Int):=by omega
       clear hD;go_wp2_with fail;go_ret3;exact⟨[],[],by rw[HG.o];rfl,(fun h=>by rw[HG.o]at h;cases h),Ext.refl _⟩
      ·have eH:decide ((57:Int)<(Af l i:Int))=false:=by simp;omega
       have te:¬(57:Int)<(Af l i:Int):=by omega
       have jz:Hid (DM (l.take (i+1))=true):=J (by rw[ge.o,iY.o,h46,uk.o];simp;omega);have eP:Hid (AE (l.take (i+1))=AE (l.take i)):=J (by rw[lM.o,iY.o,h46,qbv]);clear hD;go_wp2_with fail;go_roundw
       case rel=>exact⟨i+1,_,by omega,by go_num,rfl,jz,J (by rw[eP.o];exact HP.o),(by first|rfl|trivial)⟩
       case measure=>simp[intOf];omega
    ·have HN:Hid ((whole l).length=i):=J (HFD.o hD (by have:=iY.o;rw[h46]at this;simpa using this));have jz:Hid (DM (l.take (i+1))=true):=J (by rw[ge.o,hD,iY.o,h46];rfl);have eP:Hid (AE (l.take (i+1))=true):=J (by rw[lM.o,iY.o,h46,Bool.or_true]);have xW:((l.length:Int) == (l.length:Int))=true:=by simp
     clear hD;go_wp2_with fail;go_roundw
     case rel=>exact⟨i+1,i,by omega,by go_num,rfl,jz,J (by rw[eP.o,HN.o];rfl),(by first|rfl|trivial)⟩
     case measure=>simp[intOf];omega
   ·have fh:p=(whole l).length:=by rw[HP.o,hD];rfl
    have hlt2:=HDT.o hD;have si:((p:Int) == (l.length:Int))=false:=by rw[beq_eq_false_iff_ne];omega
    cases h46:((Af l i:Int) == 46)
    ·rcases qah (Af l i) 48 with wU|wU
     ·have HG:Hid (CO l=false):=J (aF.o (by rw[ge.o,hD,iY.o,h46,uk.o];simp;omega));have dJ:decide ((Af l i:Int)<48)=true:=by rw[decide_eq_true_iff];omega
      have tf:(Af l i:Int)<48:=by omega
      clear hD;go_wp2_with fail;go_ret3;exact⟨[],[],by rw[HG.o];rfl,(fun h=>by rw[HG.o]at h;cases h),Ext.refl _⟩
     ·have dJ:decide ((Af l i:Int)<48)=false:=by simp;omega
      have tf:¬(Af l i:Int)<48:=by omega
      rcases qah 57 (Af l i) with V7|V7
      ·have HG:Hid (CO l=false):=J (aF.o (by rw[ge.o,hD,iY.o,h46,uk.o];simp;omega));have eH:decide ((57:Int)<(Af l i:Int))=true:=by rw[decide_eq_true_iff];omega
       have te:(57:Int)<(Af l i:Int):=by omega
       clear hD;go_wp2_with fail;go_ret3;exact⟨[],[],by rw[HG.o];rfl,(fun h=>by rw[HG.o]at h;cases h),Ext.refl _⟩
      ·have eH:decide ((57:Int)<(Af l i:Int))=false:=by simp;omega
       have te:¬(57:Int)<(Af l i:Int):=by omega
       have jz:Hid (DM (l.take (i+1))=true):=J (by rw[ge.o,iY.o,h46,uk.o];simp;omega);have eP:Hid (AE (l.take (i+1))=AE (l.take i)):=J (by rw[lM.o,iY.o,h46,qbv]);clear hD;go_wp2_with fail;go_roundw
       case rel=>exact⟨i+1,_,by omega,by go_num,rfl,jz,J (by rw[eP.o];exact HP.o),(by first|rfl|trivial)⟩
       case measure=>simp[intOf];omega
    ·have wU:(Af l i:Int)<48:=by
      have:(Af l i:Int)=46:=by simpa using h46
      omega
     have HG:Hid (CO l=false):=J (aF.o (by rw[ge.o,hD,uk.o];simp;omega));have dJ:decide ((Af l i:Int)<48)=true:=by simpa using wU
     clear hD fh hlt2;go_wp2_with fail;go_ret3;exact⟨[],[],by rw[HG.o];rfl,(fun h=>by rw[HG.o]at h;cases h),Ext.refl _⟩
  ·obtain rfl:i=l.length:=by omega
   rw[qaf (qab _)]at HA HP;have fh:p=(whole l).length:=by
    rw[HP.o];cases hD:AE l
    ·rw[FB hD];rfl
    ·rfl
   subst fh;clear HP;rcases qag (whole l).length with dE|dE
   ·have HG:Hid (CO l=false):=J (by
     have h1:whole l=[]:=qap dE;have h2:Ic l=true:=by unfold Ic;rw[h1];simp
     rw[Cy,h2];rfl)
    have hz:(((whole l).length:Int) == 0)=true:=by rw[dE];rfl
    clear dE;go_wp2_with fail;go_ret3;exact⟨[],[],by rw[HG.o];rfl,(fun h=>by rw[HG.o]at h;cases h),Ext.refl _⟩
   ·have hz:(((whole l).length:Int) == 0)=false:=by rw[beq_eq_false_iff_ne];omega
    have hwle:=Gz l;have gW:(0:Int)<(l.length:Int):=by omega
    have yv:Hid ((whole l == [])=false):=J (by rw[beq_eq_false_iff_ne];intro e;rw[e]at dE;simp at dE);have oC:=MR dE;rcases qah 1 (whole l).length with YD|YD
    ·have hd:(1:Int)<((whole l).length:Int):=by omega
     cases hb0:((Af l 0:Int) == 48)
     ·have xl:Hid (((whole l)[0]? == some 48 && decide (1<(whole l).length))=false):=J (by rw[oC,hb0];rfl);clear oC;cases hD:AE l
      ·have rU:=FB hD;have HG:Hid (CO l=true):=J (by rw[Cy,HA.o,ET (by rw[hD];rfl),yv.o,xl.o];rfl);have si:(((whole l).length:Int) == (l.length:Int))=true:=by rw[beq_iff_eq];omega
       have qe:¬((whole l).length:Int)<(l.length:Int):=by omega
       have HE:Hid (whole l=l/\Bb l=[]):=J (by
        rcases Ck l with ⟨h1,_⟩|⟨_,h2,h3⟩
        ·rw[hD]at h1;cases h1
        ·exact⟨h2.symm,h3⟩)
       clear hD rU;go_wp2_with fail;go_ret3;exact⟨l,[],by rw[HG.o];rfl,(fun _=>⟨HE.o.1.symm,HE.o.2.symm⟩),Ext.refl _⟩
      ·have zS:(whole l).length<l.length:=of_decide_eq_true hD;have si:(((whole l).length:Int) == (l.length:Int))=false:=by rw[beq_eq_false_iff_ne];omega
       have qe:((whole l).length:Int)<(l.length:Int):=by omega
       obtain⟨k,hk⟩:∃k,l.length=k+1:=⟨l.length-1,by omega⟩;have uC:(l.length:Int)-1=(k:Int):=by omega
       have mm:(k:Int)<(l.length:Int):=by omega
       have kR:=J (O0 hD hk);rcases qag (Bb l).length with hp0|hp0
       ·have fR:Bb l=[]:=qap hp0;have HG:Hid (CO l=false):=J (by rw[Cy,FN (by rw[hD,fR];rfl)];rfl);have fM:=kR.o.1 fR;have am:((Af l k:Int) == 48)=false:=by rw[fM];rfl
        have hb2:((Af l k:Int) == 46)=true:=by rw[fM];rfl
        clear hD hk hp0 fR fM;go_wp2_with fail;go_ret3;exact⟨[],[],by rw[HG.o];rfl,(fun h=>by rw[HG.o]at h;cases h),Ext.refl _⟩
       ·have fR:Bb l≠[]:=fun e=>by rw[e]at hp0;simp at hp0
        have jK:(Bb l == [])=false:=by rw[beq_eq_false_iff_ne];exact fR
        have fM:=kR.o.2 fR;cases hb:((Af l k:Int) == 48)
        ·have HG:Hid (CO l=true):=J (by rw[Cy,HA.o,ET (by rw[hD,jK,fM,hb];rfl),yv.o,xl.o];rfl);have hb2:((Af l k:Int) == 46)=false:=by
          have h1:=JA HA.o hD fR hk;rw[beq_eq_false_iff_ne];omega
         have WB:=J (Gc l);have Xg:=J (K5 hD);have aT:IntKind.i64.wrap (((whole l).length:Int)+1)=((whole l).length:Int)+1:=IntWalk.i64_in _ (by omega);have bQ:(0:Int)<=((whole l).length:Int)+1:=by omega
         have fQ:((whole l).length:Int)+1<=(l.length:Int):=by omega
         have hw4:(((whole l).length:Int)+1).toNat=(whole l).length+1:=by omega
         have eS:((whole l).length:Int)<=(l.length:Int):=by omega
         clear hD hk hp0 fR fM jK;go_wp2_with fail;go_quiet (fail);go_wp2_with fail;go_ret3;exact⟨_,_,by rw[HG.o];rfl,(fun _=>⟨WB.o,Xg.o⟩),(Ext.refl _).drewN _⟩
        ·have HG:Hid (CO l=false):=J (by rw[Cy,FN (by rw[hD,jK,fM,hb];rfl)];rfl);clear hD hk hp0 fR fM jK;go_wp2_with fail;go_ret3;exact⟨[],[],by rw[HG.o];rfl,(fun h=>by rw[HG.o]at h;cases h),Ext.refl _⟩
     ·have HG:Hid (CO l=false):=J (by
       have h2:Ic l=true:=by unfold Ic;rw[oC,hb0];simp[YD]
       rw[Cy,h2];rfl)
      clear oC;go_wp2_with fail;go_ret3;exact⟨[],[],by rw[HG.o];rfl,(fun h=>by rw[HG.o]at h;cases h),Ext.refl _⟩
    ·have hd:¬(1:Int)<((whole l).length:Int):=by omega
     have xl:Hid (((whole l)[0]? == some 48 && decide (1<(whole l).length))=false):=J (by rw[decide_eq_false (by omega),Bool.and_false]);clear oC;cases hD:AE l
     ·have rU:=FB hD;have HG:Hid (CO l=true):=J (by rw[Cy,HA.o,ET (by rw[hD];rfl),yv.o,xl.o];rfl);have si:(((whole l).length:Int) == (l.length:Int))=true:=by rw[beq_iff_eq];omega
      have qe:¬((whole l).length:Int)<(l.length:Int):=by omega
      have HE:Hid (whole l=l/\Bb l=[]):=J (by
       rcases Ck l with ⟨h1,_⟩|⟨_,h2,h3⟩
       ·rw[hD]at h1;cases h1
       ·exact⟨h2.symm,h3⟩)
      clear hD rU;go_wp2_with fail;go_ret3;exact⟨l,[],by rw[HG.o];rfl,(fun _=>⟨HE.o.1.symm,HE.o.2.symm⟩),Ext.refl _⟩
     ·have zS:(whole l).length<l.length:=of_decide_eq_true hD;have si:(((whole l).length:Int) == (l.length:Int))=false:=by rw[beq_eq_false_iff_ne];omega
      have qe:((whole l).length:Int)<(l.length:Int):=by omega
      obtain⟨k,hk⟩:∃k,l.length=k+1:=⟨l.length-1,by omega⟩;have uC:(l.length:Int)-1=(k:Int):=by omega
      have mm:(k:Int)<(l.length:Int):=by omega
      have kR:=J (O0 hD hk);rcases qag (Bb l).length with hp0|hp0
      ·have fR:Bb l=[]:=qap hp0;have HG:Hid (CO l=false):=J (by rw[Cy,FN (by rw[hD,fR];rfl)];rfl);have fM:=kR.o.1 fR;have am:((Af l k:Int) == 48)=false:=by rw[fM];rfl
       have hb2:((Af l k:Int) == 46)=true:=by rw[fM];rfl
       clear hD hk hp0 fR fM;go_wp2_with fail;go_ret3;exact⟨[],[],by rw[HG.o];rfl,(fun h=>by rw[HG.o]at h;cases h),Ext.refl _⟩
      ·have fR:Bb l≠[]:=fun e=>by rw[e]at hp0;simp at hp0
       have jK:(Bb l == [])=false:=by rw[beq_eq_false_iff_ne];exact fR
       have fM:=kR.o.2 fR;cases hb:((Af l k:Int) == 48)
       ·have HG:Hid (CO l=true):=J (by rw[Cy,HA.o,ET (by rw[hD,jK,fM,hb];rfl),yv.o,xl.o];rfl);have hb2:((Af l k:Int) == 46)=false:=by
         have h1:=JA HA.o hD fR hk;rw[beq_eq_false_iff_ne];omega
        have WB:=J (Gc l);have Xg:=J (K5 hD);have aT:IntKind.i64.wrap (((whole l).length:Int)+1)=((whole l).length:Int)+1:=IntWalk.i64_in _ (by omega);have bQ:(0:Int)<=((whole l).length:Int)+1:=by omega
        have fQ:((whole l).length:Int)+1<=(l.length:Int):=by omega
        have hw4:(((whole l).length:Int)+1).toNat=(whole l).length+1:=by omega
        have eS:((whole l).length:Int)<=(l.length:Int):=by omega
        clear hD hk hp0 fR fM jK;go_wp2_with fail;go_quiet (fail);go_wp2_with fail;go_ret3;exact⟨_,_,by rw[HG.o];rfl,(fun _=>⟨WB.o,Xg.o⟩),(Ext.refl _).drewN _⟩
       ·have HG:Hid (CO l=false):=J (by rw[Cy,FN (by rw[hD,jK,fM,hb];rfl)];rfl);clear hD hk hp0 fR fM jK;go_wp2_with fail;go_ret3;exact⟨[],[],by rw[HG.o];rfl,(fun h=>by rw[HG.o]at h;cases h),Ext.refl _⟩
def Cb(w:World)(l:List UInt8):World:=Lib.bytesWorld w 5 ⟨l.toArray⟩
theorem FK(w:World)(l:List UInt8):Ext w (Cb w l):=by
 refine⟨?_,?_,?_,?_,fun k hk=>Lib.bytesWorld_at_old w _ _ k hk⟩
 ·simp[Cb,Lib.bytesWorld,World.freeze,World.alloc,World.drew,-World.alloc_eq,-World.drew_eq]
 ·simp[Cb,Lib.bytesWorld,World.freeze,World.alloc,World.drew,-World.alloc_eq,-World.drew_eq]
 ·simp[Cb,Lib.bytesWorld,World.freeze,World.alloc,World.drew,-World.alloc_eq,-World.drew_eq]
 ·unfold Cb;rw[Lib.bytesWorld_size];omega
theorem Fg(w:World)(l:List UInt8)(j:Nat)(h:j<l.length):(Cb w l).cell? ⟨w.heap.size,j,none⟩=some (.int .u8 (Af l j:Int)):=by
 unfold Cb Af;rw[Lib.bytesWorld_cell w _ _ j (by rw[Cv];exact h)]
theorem Ox(w:World)(l:List UInt8):w.heap.size<(Cb w l).heap.size:=by unfold Cb;rw[Lib.bytesWorld_size];omega
theorem DC(w:World)(l:List UInt8):∃c,(convert 9 221 (str l)).run Tryz.prog w= .ok (.slice (some ⟨w.heap.size,0,none⟩) l.length c) (Cb w l)/\l.length<=c:=by
 have:=Lib.run_convert_string_bytes (P:=Tryz.prog) w 9 221 5 ⟨l.toArray⟩ Tryz.underlying9 Tryz.underlying221 Tryz.underlying5;rw[Cv]at this;exact⟨_,this,grownCap_ge w l.length 0 _⟩
theorem ME(n:Nat)(d:Nat):GT (n:Int) ((d:Nat):Int)=EN (n:Int) d/\GU (n:Int) ((d:Nat):Int)=Em (n:Int) d:=by
 unfold GT EN GU Em;have h1:decide ((n:Int)<0)=false:=by simp
 have h2:decide ((d:Int)<0)=false:=by simp
 rw[h1,h2,qaL,qaL];exact⟨rfl,rfl⟩
theorem Lk(w:World)(l:List UInt8)(h:400<l.length):Calls Tryz.prog 126 #[str l] w (D7 w l):=by
 have hc:Bh l=7:=if_pos h;have h':(400:Int)<(l.length:Int):=by omega
 have HC:=J hc;clear h hc;go_enter Tryz.func126,Tryz.ntmps126;go_wp2_with fail;refine bodyPost_ret (v:= .tuple #[.agg #[.bool false,.slice none 0 0,.slice none 0 0],.int .i64 7]) (by simp[results,Tryz.results126,go_sem]) rfl ?_
 exact⟨_,by rw[HC.o];rfl,by rw[HC.o];exact Ag.zero _ _,(Ext.refl w).alloc _⟩
theorem Fu(w:World)(l:List UInt8):Calls Tryz.prog 126 #[str l] w (D7 w l):=by
 rcases qah 400 l.length with hl|hl
 ·exact Lk w l hl
 have HD:=J (fun W=>Lm W l (by omega));have wW:¬(400:Int)<(l.length:Int):=by omega
 cases hg:CO l
 ·have HC:Hid (Bh l=6):=J (by unfold Bh;rw[if_neg (by omega),hg];rfl);have HG:=J hg;clear hg;go_enter Tryz.func126,Tryz.ntmps126;go_wp2_with fail;refine(HD.o _).mono ?_
  rintro e w1 ⟨a,b,rfl,_,ak⟩;rw[HG.o];have au:=J (((Ext.refl w).alloc (.cells #[.bool false,.slice none 0 0,.slice none 0 0] 26)).trans ak);have hk:=(Blk.new w 26 #[.bool false,.slice none 0 0,.slice none 0 0]).ext ak;have ag:=J hk;have k0:=hk.three;clear ak hk;go_wp2_with fail;obtain⟨ai,ac,hr2⟩:=Aj ag.o (.bool false) (.slice none 0 0) (.slice none 0 0);refine bodyPost_ret (v:= .tuple #[.agg #[.bool false,.slice none 0 0,.slice none 0 0],.int .i64 6]) (by simp[results,Tryz.results126,go_sem,ai,ac,hr2]) rfl ?_
  exact⟨_,by rw[HC.o];rfl,by rw[HC.o];exact Ag.zero _ _,((au.o.setCell (qab _) _).setCell (qab _) _).setCell (qab _) _⟩
 ·have HC:Hid (Bh l=0):=J (by unfold Bh;rw[if_neg (by omega),hg];rfl);have HG:=J hg;have hall:DM l=true:=by
   rw[Cy,qaT]at hg;exact hg.2
  have hpl:(Bb l).length<=l.length:=by
   rcases Ck l with ⟨_,h1⟩|⟨_,_,h2⟩
   ·have:=congrArg List.length h1;simp at this;omega
   ·rw[h2];simp
  have np:=Gz l;have fp:Hid (HJ l=EN (Bo (whole l++Bb l)) (10 ^ (Bb l).length)):=J rfl;have lZ:Hid (Ia l=Em (Bo (whole l++Bb l)) (10 ^ (Bb l).length)):=J rfl;unfold DM at hall;clear hg;have wP:∀W',(binOp .add 9 (str (whole l)) (str (Bb l))).run Tryz.prog W'= .ok (str (whole l++Bb l)) W':=Im _ _ (by omega);have hL:(whole l++Bb l).length<=800:=by rw[qac];omega
  go_enter Tryz.func126,Tryz.ntmps126;go_wp2_with fail;refine(HD.o _).mono ?_
  rintro e w1 ⟨a,b,rfl,VV,ak⟩;obtain⟨rfl,rfl⟩:=VV HG.o;rw[HG.o];generalize whole l=W at *;generalize Bb l=P at *;have au:=J (((Ext.refl w).alloc (.cells #[.bool false,.slice none 0 0,.slice none 0 0] 26)).trans ak);have ag:=J ((Blk.new w 26 #[.bool false,.slice none 0 0,.slice none 0 0]).ext ak);obtain⟨cb,hcv,oG⟩:=DC w1 (W++P);have HBY:=J (fun j h=>Fg w1 (W++P) j h);have dj:=J (FK w1 (W++P));have dH:=J (Ox w1 (W++P));clear ak VV HD HG;generalize W++P=L at *;generalize Cb w1 L=wb at *;have gz:=J hall;clear hall;go_wp2_with fail;clear hcv wP;go_loopw [7,28] (fun s7 s28 wr=>∃(k m:Nat) (A:Option Addr) (c:Nat),k<=L.length/\s28= .int .i64 (k:Int)/\s7= .slice A m c/\Own (w.heap.size+1) wr s7 (Ac (Bo (L.take k)))/\Ext wb wr) (fun _ s28 _=>L.length-(intOf s28).toNat)
  case atStart=>exact⟨0,0,none,0,qaj _,rfl,rfl,Own.none_ _ _,Ext.refl _⟩
  case round=>
   obtain⟨k,m,A,c,hk,rfl,rfl,ho,hx⟩:=hrel;have HO:=J ho;have HX:=J hx;have cA:w.heap.size+1<=wr.heap.size:=by
    have h1:=ag.o.lt;have h2:=dH.o;have h3:=hx.size;omega
   have qW:(Ac (Bo (L.take k))).length<=800:=by
    refine D5 (GP _ ?_) (by rw[qam];omega);rw[qbR];intro x cW;exact qbR.1 gz.o x (List.mem_of_mem_take cW)
   by_cases hlt:k<L.length
   ·have fM:=(hx.cell dH.o).trans (HBY.o k hlt);have iP:=BG L k hlt;have nz:BA L[k]=true:=qbR.1 gz.o _ (qaw hlt);have dI:=JE L k hlt;rw[<-iP]at dI;unfold BA at nz;rw[<-iP]at nz;simp only[qaT,decide_eq_true_eq]at nz;obtain⟨d1,d2⟩:=nz;generalize Af L k=b at *;have E1:=J (show ((b:Int)-48)=((b-48:Nat):Int) by omega);have HS:=J (E4 wr _ _ 10 (b-48) ho.arr (by omega) (by decide) (by omega));rw[Ad]at HS;have HN:=J (show Bo (L.take (k+1))=Bo (L.take k)*10+(b-48) by rw[dI];omega);clear ho hx iP dI qW oG;go_wp2_with fail;rw[E1.o];refine HS.o.mono ?_
    rintro e w2 ⟨v2,rfl,de,ah⟩;rw[<-HN.o]at de;have em:=J (de.mono cA);have aR:=J (HX.o.trans ah);obtain⟨n2,A2,c2,rfl⟩:=de.shape;clear de ah;go_wp2_with fail;go_roundw
    case rel=>exact⟨k+1,n2,A2,c2,by omega,by go_num,rfl,em.o,aR.o⟩
    case measure=>simp[intOf];omega
   ·obtain rfl:k=L.length:=by omega
    rw[qaf (qab _)]at HO ho qW;have ry:=J (Cg wr false _ _ ho.arr (by omega));rw[Ad]at ry;have hsg:sgn false (Bo L)=((Bo L:Nat):Int):=rfl;rw[hsg]at ry;have WD:=J (fun W'=>Rt W' P.length (by omega));have hte:(Ac (10 ^ P.length)).length<=801:=D5 (k:=P.length+1) (Nat.pow_lt_pow_right (by decide) (by omega)) (by omega);have dG:=J (fun W' a b h1 h2=>Md W' a b ((Bo L:Nat):Int) ((10 ^ P.length:Nat):Int) h1 h2 (by rw[qaL];omega) (by rw[qaL];omega) (by
     have:0<10 ^ P.length:=qbb (by decide);omega))
    rw[(ME (Bo L) (10 ^ P.length)).1,(ME (Bo L) (10 ^ P.length)).2]at dG;have ju:=J ((au.o.trans dj.o).trans hx);have Zx:=J (((ag.o.ext dj.o)).ext hx);clear ho hx qW hte hsg oG;go_wp2_with fail;refine ry.o.mono ?_
    rintro e w5 ⟨v5,rfl,dO,hx5⟩;have xE:=J dO;obtain⟨b5,n5,A5,c5,rfl⟩:=dO.shape;have dn:=J (ju.o.trans hx5);have iZ:=J (Zx.o.ext hx5);clear dO hx5;go_wp2_with fail;refine(WD.o _).mono ?_
    rintro e w6 ⟨v6,rfl,je,dd⟩;have xD:=J je;obtain⟨b6,n6,A6,c6,rfl⟩:=je.shape;have W9:=J (xE.o.ext dd);have dD:=J (dn.o.trans dd);have mD:=J (iZ.o.ext dd);clear je dd;go_wp2_with fail;refine(dG.o _ _ _ W9.o.arr xD.o.arr).mono ?_
    rintro e w8 ⟨v8,rfl,cO,bJ⟩;obtain⟨b8,n8,A8,c8,qM,rB,rj,rfl⟩:=cO.shape;have tR:=J cO;have dF:=J (dD.o.trans bJ);have hk:=mD.o.ext bJ;have mC:=J hk;have oX:=J dD.o.size;have pi:=J mD.o.lt;clear cO bJ;have k0:=hk.three;clear hk;go_wp2_with fail;obtain⟨ai,ac,hr2⟩:=Aj mC.o (.bool b8) (.slice A8 n8 c8) (.slice rB qM rj);refine bodyPost_ret (v:= .tuple #[.agg #[.bool b8,.slice A8 n8 c8,.slice rB qM rj],.int .i64 0]) (by simp[results,Tryz.results126,go_sem,ai,ac,hr2]) rfl ?_
    have dQ:=tR.o.put (w:=w) pi.o oX.o;exact⟨_,by rw[HC.o];rfl,by rw[HC.o,if_pos rfl,if_pos rfl,fp.o,lZ.o];exact dQ,((dF.o.setCell (qab _) _).setCell (qab _) _).setCell (qab _) _⟩
end Big
end Go.Proofs.YtkoaogkknnelaaaGreatDoor
