import Derived.Test.YtkoaogkknnelaaaGreatDoorM37
set_option linter.unusedVariables false
set_option linter.unusedSimpArgs false
set_option maxHeartbeats 4000000
set_option maxRecDepth 100000
namespace Go.Proofs.YtkoaogkknnelaaaGreatDoor
namespace Big
open Lib (hid)
open Go.RowKit
theorem Aj.denO{B:Nat}{w:World}{bb:Bool}{m d:Value}{p:Int}{q:Nat}(h:Aj B w (.agg #[.bool bb,m,d]) p q):Own B w d (Ac q):=by
 obtain⟨m',d',he,h1,h2⟩:=h;obtain⟨_,_,e3⟩:=Tk he;rw[e3];exact h2
theorem Pe(w:World)(v0:Value)(p:Int)(q:Nat)(h0:Aw w v0 p q)(n0:(Ac p.natAbs).length<=1000000)(m0:(Ac q).length<=1000000)(hi:Aj 0 w v0 p q):
  Calls Tryz.prog 142 #[v0] w fun e w'=>∃v',e= .returned v'/\Aj 0 w' v' (-p) q/\Ext w w':=by
 have H0:=hid h0;have ie:=hid (fun W v a=>JW W v p a (by omega));have HI:=hid hi;obtain⟨b0,l0,A0,c0,k0,D0,e0,rfl⟩:=h0.shape;clear h0 hi;go_enter Tryz.func142,Tryz.ntmps142;go_wp2_with fail;have hb0:=((Blk.new w 26 #[.bool b0,.slice A0 l0 c0,.slice D0 k0 e0]).alloc (.cells #[.bool false,.slice none 0 0,.slice none 0 0] 26));have aq:=(Blk.new (w.alloc (.cells #[.bool b0,.slice A0 l0 c0,.slice D0 k0 e0] 26)) 26 #[.bool false,.slice none 0 0,.slice none 0 0]);have aC:=(((Ext.refl w).alloc (.cells #[.bool b0,.slice A0 l0 c0,.slice D0 k0 e0] 26)).alloc (.cells #[.bool false,.slice none 0 0,.slice none 0 0] 26));have az:w.heap.size+1+1=((w.alloc (.cells #[.bool b0,.slice A0 l0 c0,.slice D0 k0 e0] 26)).alloc (.cells #[.bool false,.slice none 0 0,.slice none 0 0] 26)).heap.size:=by simp
 simp only[World.size_alloc]at aq;generalize (w.alloc (.cells #[.bool b0,.slice A0 l0 c0,.slice D0 k0 e0] 26)).alloc (.cells #[.bool false,.slice none 0 0,.slice none 0 0] 26)=wo at *;obtain⟨cr,cq,db,_,_,_,_⟩:=hb0.three;obtain⟨t0,t1,t2,s0,s1,s2,eC⟩:=aq.three;clear hb0 aq
 go_region_held3 (fun w'=>Ext w w'/\w'.cell? ⟨w.heap.size,0,none⟩=some (Value.bool b0)/\w'.cell? ⟨w.heap.size,1,none⟩=some (Value.slice A0 l0 c0)/\w'.cell? ⟨w.heap.size,2,none⟩=some (Value.slice D0 k0 e0)/\w'.cell? ⟨w.heap.size+1,0,none⟩=some (was w' (w.heap.size+1) 0)/\w'.cell? ⟨w.heap.size+1,1,none⟩=some (was w' (w.heap.size+1) 1)/\w'.cell? ⟨w.heap.size+1,2,none⟩=some (was w' (w.heap.size+1) 2)/\w'.frozen? ⟨w.heap.size+1,0,none⟩=false/\w'.frozen? ⟨w.heap.size+1,1,none⟩=false/\w'.frozen? ⟨w.heap.size+1,2,none⟩=false)
  (first|(exact⟨aC.drew,cr,cq,db,Ag (w:=wo.drew) t0,Ag (w:=wo.drew) t1,Ag (w:=wo.drew) t2,s0,s1,s2⟩)|(exact Gm (by assumption) (by assumption))|(exact Dz (by assumption) (by omega) (by omega) (by omega) (by omega)))
  (first
   |(go_at_call 189;refine(ie.out _ _ (H0.out.int.ext (And.left (by assumption)))).mono ?_;rintro e w1 ⟨r0,rfl,aQ,hx0⟩;have aE:=hx0.size;have R0:=hid aQ;obtain⟨f0,g0,G0,j0,rfl⟩:=aQ.shape))
 all_goals go_wp2_with fail
 rename_i hS;obtain⟨hE,_,_,_,hc0,hc1,dK,_,_,_⟩:=hS;simp only[World.size_drew]at aE;obtain⟨ak,ae,hr2⟩:=C2 hc0 hc1 dK;refine bodyPost_ret (v:= .agg #[.bool f0,.slice G0 g0 j0,.slice D0 k0 e0]) (by simp[results,Tryz.results142,go_sem,ak,ae,hr2]) rfl ?_
 exact⟨_,rfl,⟨.slice G0 g0 j0,.slice D0 k0 e0,by rw[R0.out.sign],((((R0.out.mag.far (show w.heap.size+1<_ by simp only[World.size_drew];omega) _).far (show w.heap.size+1<_ by simp only[World.size_drew];omega) _).far (show w.heap.size+1<_ by simp only[World.size_drew];omega) _).mono (Nat.zero_le _)),HI.out.denO.ext hE⟩,hE⟩
structure Rv2 (g:Nat) (w:World) (nc rc:Array Value):Prop where
 n:Blk w g 95 nc
 r:Blk w (g+1) 26 rc
theorem Rv2.ext{g:Nat}{w w':World}{nc rc:Array Value}(h:Rv2 g w nc rc)(hx:Ext w w'):Rv2 g w' nc rc:=⟨h.n.ext hx,h.r.ext hx⟩
theorem Rv2.made(w:World)(nc rc:Array Value):Rv2 w.heap.size ((w.alloc (.cells nc 95)).alloc (.cells rc 26)) nc rc:=by
 have h2:=(Blk.new (w.alloc (.cells nc 95)) 26 rc);simp only[World.size_alloc]at h2;exact⟨(Blk.new w _ nc).alloc _,h2⟩
theorem Rv2.cells{g:Nat}{w:World}{n0 n1 n2 n3 n4 r0 r1 r2:Value}(h:Rv2 g w #[n0,n1,n2,n3,n4] #[r0,r1,r2]):
  (w.cell? ⟨g,0,none⟩=some n0/\w.cell? ⟨g,1,none⟩=some n1/\w.cell? ⟨g,2,none⟩=some n2/\w.cell? ⟨g,3,none⟩=some n3/\w.cell? ⟨g,4,none⟩=some n4)/\
  (w.cell? ⟨g+1,0,none⟩=some r0/\w.cell? ⟨g+1,1,none⟩=some r1/\w.cell? ⟨g+1,2,none⟩=some r2)/\(w.frozen? ⟨g+1,0,none⟩=false/\w.frozen? ⟨g+1,1,none⟩=false/\w.frozen? ⟨g+1,2,none⟩=false)/\g+1<w.heap.size:=
 ⟨⟨h.n.cell 0,h.n.cell 1,h.n.cell 2,h.n.cell 3,h.n.cell 4⟩,⟨h.r.cell 0,h.r.cell 1,h.r.cell 2⟩,⟨h.r.frozen 0,h.r.frozen 1,h.r.frozen 2⟩,h.r.lt⟩
def Lc(x:X2)(w:World)(e:Ending)(w':World):Prop:=
 ∃v' b P Q,e= .returned (.tuple #[v',.bool b])/\Aj 0 w' v' P Q/\Ext w w'/\(Ac P.natAbs).length<=100000/\(Ac Q).length<=100000/\((b=true/\x=AW P Q)\/(b=false/\x=X2.O))
def GZ(w:World)(g o:Nat)(b:Bool)(A:Option Addr)(n c:Nat)(A':Option Addr)(n' c':Nat):Prop:=
 w.cell? ⟨g,o,none⟩=some (.bool b)/\w.cell? ⟨g,o+1,none⟩=some (.slice A n c)/\w.cell? ⟨g,o+2,none⟩=some (.slice A' n' c')
theorem GZ.ext{w w':World}{g o:Nat}{b:Bool}{A:Option Addr}{n c:Nat}{A':Option Addr}{n' c':Nat}(h:GZ w g o b A n c A' n' c')(hx:Ext w w'):GZ w' g o b A n c A' n' c':=
 ⟨(hx.cell (World.block_lt_of_cell? w _ h.1)).trans h.1,(hx.cell (World.block_lt_of_cell? w _ h.2.1)).trans h.2.1,(hx.cell (World.block_lt_of_cell? w _ h.2.2)).trans h.2.2⟩
theorem Jr.open{w:World}{g o:Nat}{x:X2}(h:Jr w g o x):∃b A n c A' n' c',GZ w g o b A n c A' n' c'/\Aj 0 w (.agg #[.bool b,.slice A n c,.slice A' n' c']) x.p x.q:=by
 obtain⟨A,n,c,A',n',c',h1,h2,h3,h4⟩:=h;exact⟨_,A,n,c,A',n',c',⟨h1,h2,h3⟩,h4⟩
theorem rv5(w:World)(a b n:Int)(t:Tx)(p:Int)(q:Nat)(b0:Bool)(A0:Option Addr)(n0 c0:Nat)(B0:Option Addr)(k0 e0:Nat)(gl ln cl:Nat)(hc:GZ w gl 0 b0 A0 n0 c0 B0 k0 e0)(hl:0<ln)(hi:Aj 0 w (.agg #[.bool b0,.slice A0 n0 c0,.slice B0 k0 e0]) p q)(lx:Low p q)(px:(Ac p.natAbs).length<=32)(qx:(Ac q).length<=32):Calls Tryz.prog 88 #[ndV ⟨5,a,b,n,t⟩,.slice (some ⟨gl,0,none⟩) ln cl] w (Lc (unX 5 n p q) w):=by
 obtain⟨t',ht⟩:∃s:ByteArray,str t= .string s:=⟨_,rfl⟩;simp only[ndV,ht];clear ht;have vZ:=hid hi;have zP:=hid hc;have k7:(0:Int)<(ln:Int):=by omega
 clear hi hc;go_enter Tryz.func88,Tryz.ntmps88;go_upto_region 1 with fail;have HB:=hid (Rv2.made w #[.int .i64 5,.int .i64 a,.int .i64 b,.int .i64 n,.string t'] #[.bool false,.slice none 0 0,.slice none 0 0]);have HX:=hid (((Ext.refl w).alloc (.cells #[.int .i64 5,.int .i64 a,.int .i64 b,.int .i64 n,.string t'] 95)).alloc (.cells #[.bool false,.slice none 0 0,.slice none 0 0] 26));generalize (w.alloc (.cells #[.int .i64 5,.int .i64 a,.int .i64 b,.int .i64 n,.string t'] 95)).alloc (.cells #[.bool false,.slice none 0 0,.slice none 0 0] 26)=wo at *;have cX:=HX;have jE:=hid (zP.out.ext HX.out);obtain⟨l0,l1,l2⟩:=jE.out;have av:=HB.out.cells;go_wp2_with fail;clear av;refine(Pe _ _ p q (vZ.out.arr.ext HX.out) (by omega) (by omega) (vZ.out.ext HX.out)).mono ?_
 rintro e w2 ⟨v2,rfl,ba,hx⟩;obtain⟨f2,g2,G2,j2,y2,Y2,z2,rfl⟩:=ba.shape;have R2:=hid ba;clear ba;have HB:=hid (HB.out.ext hx);have HX:=hid (HX.out.trans hx);clear hx;have av:=HB.out.cells;go_wp2_with fail;obtain⟨ak,ae,hr2⟩:=Ak HB.out.r (.bool f2) (.slice G2 g2 j2) (.slice Y2 y2 z2);refine bodyPost_ret (v:= .tuple #[.agg #[.bool f2,.slice G2 g2 j2,.slice Y2 y2 z2],.bool true]) (by simp[results,Tryz.results88,go_sem,ak,ae,hr2]) rfl ?_
 exact⟨_,true,_,_,rfl,R2.out.low0.ku (KU.three HB.out.r _ _ _),HX.out.three (Nat.le_succ _) _ _ _,by rw[Int.natAbs_neg];omega,by omega,.inl ⟨rfl,by simp[unX]⟩⟩
theorem Rv2.far{g:Nat}{w:World}{nc rc:Array Value}(h:Rv2 g w nc rc){a:Addr}(ha:g+1<a.block)(u:Value):Rv2 g (w.setCell a u) nc rc:=⟨h.n.far (by omega) u,h.r.far (by omega) u⟩
theorem GZ.lt{w:World}{g o:Nat}{b:Bool}{A:Option Addr}{n c:Nat}{A':Option Addr}{n' c':Nat}(h:GZ w g o b A n c A' n' c'):g<w.heap.size:=World.block_lt_of_cell? w _ h.1
theorem rv7(w:World)(a b n:Int)(t:Tx)(p:Int)(q:Nat)(b0:Bool)(A0:Option Addr)(n0 c0:Nat)(B0:Option Addr)(k0 e0:Nat)(r:Int)(s:Nat)(b1:Bool)(A1:Option Addr)(n1 c1:Nat)(B1:Option Addr)(k1 e1:Nat)(gl ln cl:Nat)(hc:GZ w gl 0 b0 A0 n0 c0 B0 k0 e0)(hl:1<ln)(hi:Aj 0 w (.agg #[.bool b0,.slice A0 n0 c0,.slice B0 k0 e0]) p q)(lx:Low p q)(px:(Ac p.natAbs).length<=32)(qx:(Ac q).length<=32)(jc:GZ w gl 3 b1 A1 n1 c1 B1 k1 e1)(pf:Aj 0 w (.agg #[.bool b1,.slice A1 n1 c1,.slice B1 k1 e1]) r s)(ly:Low r s)(py:(Ac r.natAbs).length<=32)(qy:(Ac s).length<=32):Calls Tryz.prog 88 #[ndV ⟨7,a,b,n,t⟩,.slice (some ⟨gl,0,none⟩) ln cl] w (Lc (biX 7 p q r s) w):=by
 obtain⟨t',ht⟩:∃s:ByteArray,str t= .string s:=⟨_,rfl⟩;simp only[ndV,ht];clear ht;have vZ:=hid hi;have zP:=hid hc;have k7:(0:Int)<(ln:Int):=by omega
 have Zq:=hid pf;have ZA:=hid jc;have hl1:(1:Int)<(ln:Int):=by omega
 have XJ:0<ln:=by omega
 clear hi hc pf jc;go_enter Tryz.func88,Tryz.ntmps88;go_upto_region 1 with fail;have HB:=hid (Rv2.made w #[.int .i64 7,.int .i64 a,.int .i64 b,.int .i64 n,.string t'] #[.bool false,.slice none 0 0,.slice none 0 0]);have HX:=hid (((Ext.refl w).alloc (.cells #[.int .i64 7,.int .i64 a,.int .i64 b,.int .i64 n,.string t'] 95)).alloc (.cells #[.bool false,.slice none 0 0,.slice none 0 0] 26));generalize (w.alloc (.cells #[.int .i64 7,.int .i64 a,.int .i64 b,.int .i64 n,.string t'] 95)).alloc (.cells #[.bool false,.slice none 0 0,.slice none 0 0] 26)=wo at *;have cX:=HX;have HWO:Hid (w.heap.size<=wo.heap.size):=hid HX.out.size;have jE:=hid (zP.out.ext HX.out);obtain⟨l0,l1,l2⟩:=jE.out;have rT:=hid (ZA.out.ext HX.out);obtain⟨m0,m1,m2⟩:=rT.out;have av:=HB.out.cells;have cB:=MP px qx (QB py) qy;go_upto_region 10 with fail
 go_region_law (go_simp;go_at_call 144;refine(O9 _ _ p q (vZ.out.arr.ext HX.out.drew) (by omega) (by omega) _ r s (Zq.out.arr.ext HX.out.drew) (by omega) (by omega) lx.1 ly.1).mono ?_;rintro e w2 ⟨v2,rfl,ba,hx⟩;have bF:=(Ext.refl wo).drew.trans hx;obtain⟨f2,g2,G2,j2,y2,Y2,z2,rfl⟩:=ba.shape;have R2:=hid ba;clear ba;have HB:=hid (HB.out.ext bF);have HX:=hid (HX.out.trans bF);clear av l0 l1 l2 m0 m1 m2 bF hx;have av:=HB.out.cells)
 all_goals
  go_wp2_with fail;obtain⟨ak,ae,hr2⟩:=Ak HB.out.r (.bool f2) (.slice G2 g2 j2) (.slice Y2 y2 z2);refine bodyPost_ret (v:= .tuple #[.agg #[.bool f2,.slice G2 g2 j2,.slice Y2 y2 z2],.bool true]) (by simp[results,Tryz.results88,go_sem,ak,ae,hr2]) rfl ?_
  exact⟨_,true,_,_,rfl,R2.out.low0.ku (KU.three HB.out.r _ _ _),HX.out.three (Nat.le_succ _) _ _ _,by omega,by omega,.inl ⟨rfl,by simp[biX]⟩⟩
theorem rv1(w:World)(a b n:Int)(t:Tx)(lv:Value)(ht:AX t=0):Calls Tryz.prog 88 #[ndV ⟨1,a,b,n,t⟩,lv] w (Lc (AW (Ic t) (If t)) w):=by
 have iq:=hid (fun W=>E5 W t);unfold DG at iq;simp only[if_pos ht]at iq;rw[ht]at iq;have qg:=Hs ht;obtain⟨t',ac⟩:∃s:ByteArray,str t= .string s:=⟨_,rfl⟩;simp only[ndV];rw[ac]at iq ⊢;clear ac ht;go_enter Tryz.func88,Tryz.ntmps88;go_upto_region 1 with fail;have HB:=hid (Rv2.made w #[.int .i64 1,.int .i64 a,.int .i64 b,.int .i64 n,.string t'] #[.bool false,.slice none 0 0,.slice none 0 0]);have HX:=hid (((Ext.refl w).alloc (.cells #[.int .i64 1,.int .i64 a,.int .i64 b,.int .i64 n,.string t'] 95)).alloc (.cells #[.bool false,.slice none 0 0,.slice none 0 0] 26));generalize (w.alloc (.cells #[.int .i64 1,.int .i64 a,.int .i64 b,.int .i64 n,.string t'] 95)).alloc (.cells #[.bool false,.slice none 0 0,.slice none 0 0] 26)=wo at *;have cX:=HX;have av:=HB.out.cells;go_wp2_with fail;clear av;refine(iq.out _).mono ?_
 rintro e w2 ⟨v2,rfl,ba,hx⟩;obtain⟨f2,g2,G2,j2,y2,Y2,z2,rfl⟩:=ba.shape;have R2:=hid ba;clear ba;have HB:=hid (HB.out.ext hx);have HX:=hid (HX.out.trans hx);clear hx;have av:=HB.out.cells;go_upto_region 4 with fail;clear av;have hb:=Blk.new w2 26 #[.bool f2,.slice G2 g2 j2,.slice Y2 y2 z2];have hx:=(Ext.refl w2).alloc (.cells #[.bool f2,.slice G2 g2 j2,.slice Y2 y2 z2] 26);generalize w2.alloc (.cells #[.bool f2,.slice G2 g2 j2,.slice Y2 y2 z2] 26)=w3 at *;generalize w2.heap.size=ap at *;have eF:=hid hb;have HB:=hid (HB.out.ext hx);have HX:=hid (HX.out.trans hx);have R2:=hid (R2.out.ext hx);clear hb hx;have t0:=eF.out.three;have av:=HB.out.cells;go_wp2_with fail;obtain⟨ak,ae,hr2⟩:=Ak HB.out.r (.bool f2) (.slice G2 g2 j2) (.slice Y2 y2 z2);refine bodyPost_ret (v:= .tuple #[.agg #[.bool f2,.slice G2 g2 j2,.slice Y2 y2 z2],.bool true]) (by simp[results,Tryz.results88,go_sem,ak,ae,hr2]) rfl ?_
 exact⟨_,true,_,_,rfl,R2.out.low0.ku (KU.three HB.out.r _ _ _),HX.out.three (Nat.le_succ _) _ _ _,by omega,by omega,.inl ⟨rfl,rfl⟩⟩
theorem rv2(w:World)(K:Int)(hK:K=2\/K=3\/K=4)(a b n:Int)(t:Tx)(lv:Value):Calls Tryz.prog 88 #[ndV ⟨K,a,b,n,t⟩,lv] w (Lc (X2.O) w):=by
 obtain⟨t',ht⟩:∃s:ByteArray,str t= .string s:=⟨_,rfl⟩;simp only[ndV,ht];clear ht;have e1:(K == 1)=false:=beq_eq_false_iff_ne.2 (by omega);have e5:(K == 5)=false:=beq_eq_false_iff_ne.2 (by omega);have e6:(K == 6)=false:=beq_eq_false_iff_ne.2 (by omega);have e7:(K == 7)=false:=beq_eq_false_iff_ne.2 (by omega);have e8:(K == 8)=false:=beq_eq_false_iff_ne.2 (by omega);have e9:(K == 9)=false:=beq_eq_false_iff_ne.2 (by omega);have vO:(K == 10)=false:=beq_eq_false_iff_ne.2 (by omega);have e11:(K == 11)=false:=beq_eq_false_iff_ne.2 (by omega);have e12:(K == 12)=false:=beq_eq_false_iff_ne.2 (by omega);have e13:(K == 13)=false:=beq_eq_false_iff_ne.2 (by omega);have e14:(K == 14)=false:=beq_eq_false_iff_ne.2 (by omega);have e15:(K == 15)=false:=beq_eq_false_iff_ne.2 (by omega);have e16:(K == 16)=false:=beq_eq_false_iff_ne.2 (by omega);clear hK;go_enter Tryz.func88,Tryz.ntmps88;go_upto_region 1 with fail;have HB:=hid (Rv2.made w #[.int .i64 K,.int .i64 a,.int .i64 b,.int .i64 n,.string t'] #[.bool false,.slice none 0 0,.slice none 0 0]);have HX:=hid (((Ext.refl w).alloc (.cells #[.int .i64 K,.int .i64 a,.int .i64 b,.int .i64 n,.string t'] 95)).alloc (.cells #[.bool false,.slice none 0 0,.slice none 0 0] 26));generalize (w.alloc (.cells #[.int .i64 K,.int .i64 a,.int .i64 b,.int .i64 n,.string t'] 95)).alloc (.cells #[.bool false,.slice none 0 0,.slice none 0 0] 26)=wo at *;have cX:=HX;have av:=HB.out.cells;go_wp2_with fail;obtain⟨ak,ae,hr2⟩:=Ak HB.out.r (.bool false) (.slice none 0 0) (.slice none 0 0);refine bodyPost_ret (v:= .tuple #[.agg #[.bool false,.slice none 0 0,.slice none 0 0],.bool false]) (by simp[results,Tryz.results88,go_sem,ak,ae,hr2]) rfl ?_
 exact⟨_,false,_,_,rfl,Aj.zero _ _,HX.out.three (Nat.le_succ _) _ _ _,AA.1,AA.2.1,.inr ⟨rfl,rfl⟩⟩
def CZ(B:Nat)(w:World)(v:Value)(T:List X2):Prop:=w.ownsRow B 3 1 v T.length (T.map fun x=>Value.int .i64 (x.st:Int))
theorem CZ.ext{B:Nat}{w w':World}{v:Value}{T:List X2}(h:CZ B w v T)(hx:Ext w w'):CZ B w' v T:=Af h (fun k _ hk=>hx.block k hk)
theorem CZ.nil(B:Nat)(w:World):CZ B w (.slice none 0 0) []:=World.ownsRow_nil w B _ 1
theorem CZ.shape{B:Nat}{w:World}{v:Value}{T:List X2}(h:CZ B w v T):∃A c,v= .slice A T.length c:=Ap h
theorem CZ.at{B:Nat}{w:World}{v:Value}{T:List X2}(h:CZ B w v T){i:Nat}(hi:i<T.length):∃g c,v= .slice (some ⟨g,0,none⟩) T.length c/\B<=g/\g<w.heap.size/\w.cell? ⟨g,i,none⟩=some (.int .i64 ((T.getD i X2.O).st:Int)):=by
 have h':=h;unfold CZ at h;rcases h.2 with ⟨_,h2⟩|⟨g,cap,cur,hv,hg,hh,_⟩
 ·omega
 ·subst hv;refine⟨g,cap,rfl,hg,(Array.getElem?_eq_some_iff.1 hh).1,?_⟩;rw[h.cellAt i (by omega),List.getElem?_map,List.getD_eq_getElem?_getD,List.getElem?_eq_getElem hi];rfl
theorem Cn.at{B:Nat}{w:World}{v:Value}{T:List X2}(h:Cn B w v T){i:Nat}(hi:i<T.length):∃g c,v= .slice (some ⟨g,0,none⟩) T.length c/\B<=g/\g<w.heap.size/\∃b A n k A' n' k',GZ w g (i*3) b A n k A' n' k'/\Aj 0 w (.agg #[.bool b,.slice A n k,.slice A' n' k']) (T.getD i X2.O).p (T.getD i X2.O).q:=by
 have h':=h;obtain⟨cs,h1,_⟩:=h;obtain⟨A,c,hv,h2⟩:=h'.read;subst hv;obtain⟨g,hA,hg,h3⟩:=h2 (by omega);subst hA;refine⟨g,c,rfl,?_,hg,?_⟩
 ·exact AH h1 g rfl
 ·have qb:T[i]? =some (T.getD i X2.O):=by rw[List.getD_eq_getElem?_getD,List.getElem?_eq_getElem hi,Option.getD_some]
  obtain⟨b,A,n,k,A',n',k',q1,q2⟩:=(h3 i _ qb).open;exact⟨b,A,n,k,A',n',k',q1,q2⟩
theorem M9{W W':World}{B1 B2:Nat}{t1 t2:TypeId}{m1 m2 n1 n2:Nat}{v1 v2:Value}{Wq Op:List Value}(h1:W.ownsRow B1 t1 m1 v1 n1 Wq)(h2:W.ownsRow B2 t2 m2 v2 n2 Op)(ht:t1≠t2)(hg:W.grownBy W' v1.ownBlock):W'.ownsRow B2 t2 m2 v2 n2 Op:=by
 refine B9 h2 (fun k hk=>hg.block k (BE h2 hk) (fun e=> ?_));rcases h1.2 with ⟨rfl,_⟩|⟨q,cap,cur,rfl,_,hh,_⟩
 ·cases e
 ·simp only[Value.ownBlock,Option.some.injEq]at e;subst e;rcases h2.2 with ⟨rfl,_⟩|⟨q',mM,mK,rfl,_,sm,_⟩
  ·cases hk
  ·simp only[Value.ownBlock,Option.some.injEq]at hk;subst hk;rw[hh]at sm;injection sm with sm
   injection sm with _ sm _
   exact ht sm
def Uo(ns:List Nd)(w:World)(e:Ending)(w':World):Prop:=∃vv sv,e= .returned (.tuple #[vv,sv])/\Cn w.heap.size w' vv (DI ns)/\CZ w.heap.size w' sv (DI ns)/\Ext w w'
noncomputable def UE(T:List X2)(zs:List Nat):List X2:=zs.map fun a=>T.getD a X2.O
def UH(L:List X2):Nat:=(L.filter fun x=>x.st == 1).length
def UJ(L:List X2):Bool:=L.any fun x=>x.st == 2
theorem Cn.push{B:Nat}{w w':World}{v v':Value}{T:List X2}{cs:List Value}{x:X2}{b:Bool}{A:Option Addr}{n c:Nat}{A':Option Addr}{n' c':Nat}(hr:Ds w cs T)(hk:KU w w')(ho:w'.ownsRow B 26 3 v' (T.length+1) (cs++[.bool b,.slice A n c,.slice A' n' c']))(hx:Aj 0 w (.agg #[.bool b,.slice A n c,.slice A' n' c']) x.p x.q):Cn B w' v' (T++[x]):=by
 have hb:=hx.arr.sign;subst hb;exact⟨_,by rw[List.length_append,List.length_singleton];exact ho,(hr.ku hk).snoc (hx.ku hk)⟩
theorem CZ.push{B:Nat}{w':World}{v':Value}{T:List X2}{x:X2}(ho:w'.ownsRow B 3 1 v' (T.length+1) (T.map (fun x=>Value.int .i64 (x.st:Int))++[.int .i64 (x.st:Int)])):CZ B w' v' (T++[x]):=by
 unfold CZ;rw[List.length_append,List.length_singleton,List.map_append];exact ho
theorem CZ.mono{B B':Nat}{w:World}{v:Value}{T:List X2}(h:CZ B w v T)(hB:B'<=B):CZ B' w v T:=by
 obtain⟨h1,h2⟩:=h;exact⟨h1,h2.imp id (fun ⟨g,cap,cur,q1,q2,q3⟩=>⟨g,cap,cur,q1,by omega,q3⟩)⟩
end Big
end Go.Proofs.YtkoaogkknnelaaaGreatDoor
