import Derived.Test.YtkoaogkknnelaaaGreatDoorM38
import Derived.Test.YtkoaogkknnelaaaGreatDoorM39
import Derived.Laws.EntriesVeiled
set_option linter.unusedVariables false
set_option linter.unusedSimpArgs false
set_option maxHeartbeats 8000000
set_option maxRecDepth 100000
namespace Go.Proofs.YtkoaogkknnelaaaGreatDoor
namespace Big
open Lib renaming hid → J
open Go.RowKit
theorem SR(w:World):BG w.heap.size (w.alloc (.cells #[.string ⟨#[120]⟩,.int .i64 0,.string ⟨#[121]⟩,.int .i64 2] 62)) (.slice (some ⟨w.heap.size,0,none⟩) 2 2) Dn:=by
 unfold BG World.ownsRow;refine⟨rfl,.inr ⟨w.heap.size,2,_,rfl,qad _,(Blk.new w _ _),?_⟩⟩;exact⟨by decide,by decide,rfl,rfl⟩
theorem Np(w:World)(hm:BT w):Calls Tryz.prog 31 #[] w fun e w'=>e= .returned (.bool true)/\Ext w w':=by
 have HM:=J hm;have a9:=J (M6 w hm);have HA:Hid (∀g b W nv,GrP w.heap.size g b W [] nv->BT W->Calls Tryz.prog 90 #[.pointer (some ⟨g,0,none⟩),.string ⟨#[49]⟩] W (Kc w.heap.size g b nv 0 QA W)):=J (fun g b W nv h hmm=>Gi _ g b W [] nv h [49] OP 1 0 QA TZ T8 F9 (by decide) (by decide) (by decide) hmm);have HB:Hid (∀g b W nv,GrP w.heap.size g b W QA nv->BT W->Calls Tryz.prog 90 #[.pointer (some ⟨g,0,none⟩),.string ⟨#[120,32,43,32,120]⟩] W (Kc w.heap.size g b nv 2 Qz W)):=J (fun g b W nv h hmm=>Gi _ g b W QA nv h [120,32,43,32,120] OO 5 2 Qz TY T7 Pp (by decide) (by decide) (by decide) hmm);have HC:Hid (∀g b W nv,GrP w.heap.size g b W Qz nv->BT W->Calls Tryz.prog 90 #[.pointer (some ⟨g,0,none⟩),.string ⟨#[121,32,42,32,121]⟩] W (Kc w.heap.size g b nv 4 Qy W)):=J (fun g b W nv h hmm=>Gi _ g b W Qz nv h [121,32,42,32,121] ON 5 4 Qy TX T6 Po (by decide) (by decide) (by decide) hmm);have HD:Hid (∀g b W nv,GrP w.heap.size g b W Qy nv->BT W->Calls Tryz.prog 90 #[.pointer (some ⟨g,0,none⟩),.string ⟨#[40,49,32,43,32,49,41,32,42,32,40,49,32,43,32,49,41]⟩] W (Kc w.heap.size g b nv 6 C9 W)):=J (fun g b W nv h hmm=>Gi _ g b W Qy nv h [40,49,32,43,32,49,41,32,42,32,40,49,32,43,32,49,41] OM 17 6 C9 TW T5 Ty (by decide) (by decide) (by decide) hmm);unfold Kc at HA HB HC HD;clear hm;go_enter Tryz.func31,Tryz.ntmps31;go_wp2_with fail;refine a9.o.mono ?_
 rintro e w0 ⟨g,b,rfl,jR,hx0⟩;have eo:=J hx0;have yM:=J jR;have pC:=J (HM.o.ext hx0);clear jR hx0 a9;go_wp2_with fail;refine(HA.o g b _ _ yM.o pC.o).mono ?_
 rintro e w1 ⟨bh,rfl,hk,hg⟩;have ah:=J (eo.o.more (hk.below yM.o));have ur:=J (pC.o.below (hk.below yM.o) yM.o.low);have f9:=J hg;clear hk hg HA yM pC eo;go_wp2_with fail;refine(HB.o g b _ _ f9.o ur.o).mono ?_
 rintro e w2 ⟨nv2,rfl,hk,hg⟩;have am:=J (ah.o.more (hk.below f9.o));have dK:=J (ur.o.below (hk.below f9.o) f9.o.low);have du:=J hg;clear hk hg HB f9 ur ah;go_wp2_with fail;refine(HC.o g b _ _ du.o dK.o).mono ?_
 rintro e w3 ⟨sr,rfl,hk,hg⟩;have ag:=J (am.o.more (hk.below du.o));have lK:=J (dK.o.below (hk.below du.o) du.o.low);have gz:=J hg;clear hk hg HC du dK am;go_wp2_with fail;refine(HD.o g b _ _ gz.o lK.o).mono ?_
 rintro e w4 ⟨rj,rfl,hk,hg⟩;have aD:=J (ag.o.more (hk.below gz.o));have yz:=J (lK.o.below (hk.below gz.o) gz.o.low);have mp:=J hg;clear hk hg HD gz lK ag;go_upto_region 4 with fail;have eI:=SR w4;have hx5:=(Ext.refl w4).alloc (.cells #[.string ⟨#[120]⟩,.int .i64 0,.string ⟨#[121]⟩,.int .i64 2] 62);generalize w4.alloc (.cells #[.string ⟨#[120]⟩,.int .i64 0,.string ⟨#[121]⟩,.int .i64 2] 62)=w5 at *;have ba:=J (aD.o.trans hx5);have qZ:=J (yz.o.ext hx5);have nO:=J (mp.o.keep hx5);have ic:=J eI;have cw:=J (JU w.heap.size g b w5 C9 rj (mp.o.keep hx5) _ Dn (eI.mono (qal _)) K4 4 (yz.o.ext hx5));unfold Fp at cw;generalize w4.heap.size=eb at *;clear eI hx5 aD yz mp;go_wp2_with fail;refine cw.o.mono ?_
 rintro e w6 ⟨z,c,ms6,vq,rfl,bj,ma,dp⟩;obtain⟨rfl,rfl,rfl⟩:=bj.uniq SJ;have aZ:=J (ba.o.more (dp.below nO.o));have cj:=J (ic.o.prog nO.o dp);have uC:=J ma;clear bj ma dp cw ba qZ nO ic;have HCY:Hid (∀W,Ext w6 W->Calls Tryz.prog 48 #[.pointer (some ⟨g,0,none⟩),.slice (some ⟨eb,0,none⟩) 2 2,.string ⟨#[120]⟩,.int .i64 2] W fun e w'=>e= .returned (.bool true)/\Ext W w'):=J (fun W hx=>(OT _ g b W C9 vq (uC.o.keep hx) _ Dn (cj.o.ext hx).read (by decide) Uc [120] (by decide) 2).mono (fun e w' ⟨d,h1,h2,h3⟩=>by
  rw[h2.2 Ue]at h1;exact⟨h1,h3⟩))
 have HUS:Hid (∀W,Ext w6 W->Calls Tryz.prog 46 #[.pointer (some ⟨g,0,none⟩),.slice (some ⟨eb,0,none⟩) 2 2,.string ⟨#[120]⟩] W fun e w'=>∃v',e= .returned v'/\BB w' v' [[121]]/\Ext W w'):=J (fun W hx=>(PI _ g b W C9 vq (uC.o.keep hx) _ Dn (cj.o.ext hx).read (by decide) [120]).mono (fun e w' ⟨v',h1,h2,h3⟩=>by
  rw[Tc]at h2;exact⟨v',h1,h2.arr,h3⟩))
 have mW:Hid (∀W v u,BB W v [[121]]->BB W u [[121]]->Calls Tryz.prog 45 #[v,u] W fun e w'=>e= .returned (.bool true)/\Ext W w'):=J (fun W v u h1 h2=>(Ml W v u _ _ h1 h2 (by decide) (by decide)).mono (fun e w' ⟨p,q⟩=>by
  rw[decide_eq_true rfl]at p;exact⟨p,q⟩))
 have zF:Hid (∀W,Ext w6 W->Calls Tryz.prog 34 #[.pointer (some ⟨g,0,none⟩),.slice (some ⟨eb,0,none⟩) 2 2] W fun e w'=>e= .returned (.bool true)/\Ext W w'):=J (fun W hx=>(Ig _ g b W C9 vq (uC.o.keep hx) _ Dn (cj.o.ext hx).read (by decide) Uc).mono (fun e w' ⟨d,h1,h2,h3⟩=>by
  rw[h2.2 K4]at h1;exact⟨h1,h3⟩))
 clear uC cj;go_wp2_with fail;refine(HCY.o _ (Ext.refl w6)).mono ?_
 rintro e w7 ⟨rfl,bG⟩;have aN:=J bG;clear bG;go_wp2_with fail;refine(HUS.o _ aN.o).mono ?_
 rintro e w8 ⟨uv,rfl,hu,bS⟩;have cp:=J (aN.o.trans bS);have Wr:=J hu;clear bS hu;go_wp2_with fail;refine(mW.o _ _ _ (Wr.o.ext ((Ext.refl w8).alloc _)) (BB.fresh1 w8 [121])).mono ?_
 rintro e w9 ⟨rfl,ja⟩;have dI:=J ((cp.o.alloc _).trans ja);clear ja;go_wp2_with fail;refine(zF.o _ dI.o).mono ?_
 rintro e dj ⟨rfl,dn⟩;have HF:=J (aZ.o.trans (dI.o.trans dn));clear dn;go_wp2_with fail;go_ret;exact⟨rfl,HF.o⟩
structure Er (w0:World) (g bg bw bo:Nat) (w:World) (v:Value) (xs:List Nd):Prop where
 ext:Ext w0 w
 pg:Blk w bg 50 #[.pointer (some ⟨g,0,none⟩)]
 pw:Blk w bw 130 #[.func (.func 115) #[] #[.pointer (some ⟨bg,0,none⟩),.pointer (some ⟨bw,0,none⟩),.pointer (some ⟨bo,0,none⟩)]]
 po:Blk w bo 32 #[v]
 row:Ai w0.heap.size w v xs
 lg:w0.heap.size<=bg
 lw:w0.heap.size<=bw
 lo:w0.heap.size<=bo
 n1:bg≠bo
 n2:bw≠bo
theorem Er.apart{w0 w:World}{g bg bw bo:Nat}{v:Value}{xs:List Nd}(h:Er w0 g bg bw bo w v xs):v.ownBlock≠some bg/\v.ownBlock≠some bw/\v.ownBlock≠some bo:=by
 have hr:=h.row;have key:∀(q:Nat) (t:TypeId) (cs:Array Value),Blk w q t cs->t≠95->v.ownBlock≠some q:=by
  intro q t cs hb ht e;unfold Ai at hr;unfold Blk at hb;rcases hr.2 with ⟨rfl,_⟩|⟨q',cap,cur,rfl,_,hh,_⟩
  ·cases e
  ·simp only[Value.ownBlock,qaw]at e;subst e;rw[hb]at hh;injection hh with hh
   injection hh with _ hh _
   exact ht hh
 exact⟨key bg _ _ h.pg (by decide),key bw _ _ h.pw (by decide),key bo _ _ h.po (by decide)⟩
theorem Er.keep{w0 w w':World}{g bg bw bo:Nat}{v:Value}{xs:List Nd}(h:Er w0 g bg bw bo w v xs)(hx:Ext w w'):Er w0 g bg bw bo w' v xs:=
 ⟨h.ext.trans hx,h.pg.ext hx,h.pw.ext hx,h.po.ext hx,h.row.ext hx,h.lg,h.lw,h.lo,h.n1,h.n2⟩
def S0(w0:World)(g bg bw bo:Nat)(w:World)(v:Value)(xs:List Nd)(e:Ex)(r:Ending)(w':World):Prop:=
 ∃v',r= .returned (.int .i64 ((xs.length+e.size-1:Nat):Int))/\KG bo bo v v' w w'/\Er w0 g bg bw bo w' v' (xs++Ag xs.length e)
theorem Er.next {w0 W w':World} {g bg bw bo g6 c6:Nat} {v:Value} {xs:List Nd} {nd:Nd} {o:Obj} (h:Er w0 g bg bw bo W v xs) (hgr:(W.alloc o).grownBy w' v.ownBlock) (hat:v.ownBlock=some g6\/g6=(W.alloc o).heap.size)
  (hn:Ai w0.heap.size w' (.slice (some ⟨g6,0,none⟩) (xs.length+1) c6) (xs++[nd])):
  Er w0 g bg bw bo (w'.setCell ⟨bo,0,none⟩ (.slice (some ⟨g6,0,none⟩) (xs.length+1) c6)) (.slice (some ⟨g6,0,none⟩) (xs.length+1) c6) (xs++[nd])/\KG bo bo v (.slice (some ⟨g6,0,none⟩) (xs.length+1) c6) W (w'.setCell ⟨bo,0,none⟩ (.slice (some ⟨g6,0,none⟩) (xs.length+1) c6))/\Blk w' bo 32 #[v]:=by
 obtain⟨a1,a2,a3⟩:=h.apart;have hs:(W.alloc o).heap.size=W.heap.size+1:=by simp
 have aV:∀k,k<W.heap.size->v.ownBlock≠some k->w'.heap[k]? =W.heap[k]? :=fun k hk hne=>(hgr.block k (by omega) (fun e=>hne e.symm)).trans (Below.heap_alloc W o k hk)
 have dZ:=h.ext.size;have hsz:=hgr.size;have kX:Blk w' bo 32 #[v]:=(aV bo h.po.lt a3).trans h.po;have ma:g6≠bo:=by
  rcases hat with h5|h5
  ·exact fun e=>a3 (by rw[h5,e])
  ·have:=h.po.lt;omega
 have xk:Ext w0 w':=⟨hgr.os.trans h.ext.os,hgr.tape.trans h.ext.tape,hgr.output.trans h.ext.output,by omega,fun k hk=>(aV k (by omega) (fun e=>by have:=Ay h.row k e;omega)).trans (h.ext.block k hk)⟩;refine⟨⟨xk.setCell (p:=⟨bo,0,none⟩) h.lo _,?_,?_,?_,?_,h.lg,h.lw,h.lo,h.n1,h.n2⟩,?_,kX⟩
 ·exact(Blk.far ((aV bg h.pg.lt a1).trans h.pg:Blk w' bg _ _) (p:=⟨bo,0,none⟩) h.n1 _)
 ·exact(Blk.far ((aV bw h.pw.lt a2).trans h.pw:Blk w' bw _ _) (p:=⟨bo,0,none⟩) h.n2 _)
 ·exact kX.set_ 0 _
 ·exact AD hn (fun k hk=>Below.heap_setCell _ _ _ k (fun e=>ma (by
   have h6:g6=k:=qaA hk;rw[h6];exact e)))
 ·have hb:=Below.setCell (Below.refl bo w') (p:=⟨bo,0,none⟩) (qad _) (.slice (some ⟨g6,0,none⟩) (xs.length+1) c6);refine⟨hb.os.trans (hgr.os),hb.tape.trans hgr.tape,hb.output.trans hgr.output,qaf (by omega) hb.size,fun k p1 p2 _ p4=>(Below.heap_setCell _ _ _ k p2).trans (aV k p1 p4),fun j hj=> ?_⟩;have h6:g6=j:=qaA hj;rcases hat with h5|h5
  ·exact .inl (by rw[h5,h6])
  ·exact .inr (by omega)
theorem Er.far{w0 w:World}{g bg bw bo nb:Nat}{v:Value}{xs:List Nd}(h:Er w0 g bg bw bo w v xs)(h0:w0.heap.size<=nb)(h1:nb≠bg)(h2:nb≠bw)(h3:nb≠bo)(h4:v.ownBlock≠some nb)(j:Nat)(u:Value):Er w0 g bg bw bo (w.setCell ⟨nb,j,none⟩ u) v xs:=
 ⟨h.ext.setCell (p:=⟨nb,j,none⟩) h0 u,h.pg.far (p:=⟨nb,j,none⟩) (fun e=>h1 e.symm) u,h.pw.far (p:=⟨nb,j,none⟩) (fun e=>h2 e.symm) u,h.po.far (p:=⟨nb,j,none⟩) (fun e=>h3 e.symm) u,AD h.row (fun k hk=>Below.heap_setCell _ _ _ k (fun e=>h4 (by rw[hk];exact congrArg some e))),h.lg,h.lw,h.lo,h.n1,h.n2⟩
theorem KG.setNew{g b nb:Nat}{n1 n2:Value}{w w':World}(h:KG g b n1 n2 w w')(h0:w.heap.size<=nb)(j:Nat)(u:Value):KG g b n1 n2 w (w'.setCell ⟨nb,j,none⟩ u):=by
 have hb:=Below.setCell (Below.refl nb w') (p:=⟨nb,j,none⟩) (qad _) u;exact⟨hb.os.trans h.os,hb.tape.trans h.tape,hb.output.trans h.output,qaf h.size hb.size,fun k p1 p2 p3 p4=>(Below.heap_setCell _ _ _ k (by show k≠nb;omega)).trans (h.block k p1 p2 p3 p4),h.move⟩
theorem PG(B g b:Nat)(w0:World)(ns:List Nd)(nv:Value)(hg:GrP B g b w0 ns nv)(bg bw bo:Nat)(e:Ex):∀(i:Nat) (w:World) (v:Value) (xs:List Nd),e.Good->Rep ns i e->Er w0 g bg bw bo w v xs->xs.length+e.size<=4096->
  Calls Tryz.prog 115 #[.int .i64 (i:Int),.pointer (some ⟨bg,0,none⟩),.pointer (some ⟨bw,0,none⟩),.pointer (some ⟨bo,0,none⟩)] w (S0 w0 g bg bw bo w v xs e):=by
 induction e with
 |leaf k t=>
  intro i w v xs be bX hw ak;have hx:ns[i]? =some ⟨(k:Int),0,0,0,t⟩:=bX
  have hi:i<ns.length:=(qai.1 hx).1;have an:=hg.ok.2 i _ hx;have hfew:=hg.few;have aS:=J (fun W=>FU W ⟨(k:Int),0,0,0,t⟩ an);have mS:BA ⟨(k:Int),0,0,0,t⟩=[]:=Cd (show Es k t from be);rw[mS]at aS;unfold Hk at aS;obtain⟨i0,i1,aR,hz1,aU⟩:=info_parts BI;obtain⟨gb,o,hA,bC,hc⟩:∃gb o,(∃c,nv= .slice (some ⟨gb,o,none⟩) ns.length c)/\gb<w0.heap.size/\Hj w0 gb (o+i*5) ⟨(k:Int),0,0,0,t⟩:=by
   obtain⟨A,c,rfl,h1⟩:=hg.row.read;obtain⟨gb,o,rfl,h2,h3⟩:=h1 (by omega);have h4:=h3 i hi;rw[(qai.1 hx).2]at h4;exact⟨gb,o,⟨c,rfl⟩,h2,h4⟩
  obtain⟨cg,eZ⟩:=hA;obtain⟨p0,p1,p2,p3,p4⟩:=hc;rw[<-hw.ext.cell bC]at p0 p1 p2 p3 p4;obtain⟨k0,k1,f0,f1,ea⟩:=(hg.keep hw.ext).blk.twoG;rw[eZ]at k0;have g0:=hw.pg.oneG;have HW:=J hw;have cX:=hw.ext.size;have kX:=hw.po.lt;have dW:(0:Int)<=(i:Int):=by omega
  have hin:(i:Int)<(ns.length:Int):=by omega
  have jo:v.ownBlock≠some w.heap.size:=fun e=>by have:=Aj hw.row e;omega
  obtain⟨A1,c1,rfl⟩:=hw.row.shape;simp only[ndV]at aS;simp only at p0 p1 p2 p3 p4;generalize hkk:(k:Int)=kk at *;obtain⟨s,hs⟩:∃s:ByteArray,s=⟨(t:List UInt8).toArray⟩:=⟨_,rfl⟩;have nh:Hid (∀za zb:Int,ndC ⟨kk,za,zb,0,t⟩=[.int .i64 kk,.int .i64 za,.int .i64 zb,.int .i64 0,.string s]):=J (fun za zb=>by rw[hs];rfl);have af:str t= .string s:=by rw[hs];rfl
  rw[af]at p4 aS;clear hs af an hx hi hw;have b7:=J (Blk.new w 95 #[.int .i64 kk,.int .i64 0,.int .i64 0,.int .i64 0,.string s]);have ag:=J ((Ext.refl w).alloc (.cells #[.int .i64 kk,.int .i64 0,.int .i64 0,.int .i64 0,.string s] 95));obtain⟨nb,hnb⟩:∃nb,nb=w.heap.size:=⟨_,rfl⟩;obtain⟨w3,a5⟩:∃w3,w3=w.alloc (.cells #[.int .i64 kk,.int .i64 0,.int .i64 0,.int .i64 0,.string s] 95):=⟨_,rfl⟩;rw[<-a5,<-hnb]at b7;rw[<-a5]at ag;rw[<-hnb]at jo;go_enter Tryz.func115,Tryz.ntmps115;go_upto_region 2 with fail;rw[<-a5,<-hnb];have lG:Hid (nb=w.heap.size):=J hnb;have bJ:Hid (w0.heap.size<=nb/\nb≠bg/\nb≠bw/\nb≠bo/\w.heap.size<=nb):=J (by have h1:=HW.o.pg.lt;have h2:=HW.o.pw.lt;exact⟨by omega,by omega,by omega,by omega,by omega⟩);clear a5 hnb p0 p1 p2 p3 p4 k0 k1 f0 f1 g0;have q0:=b7.o.five;go_wp2_with fail;refine(aS.o w3).mono ?_
  rintro e w4 ⟨A3,c3,rfl,aJ,bO⟩;have rX:=J (HW.o.keep (ag.o.trans aJ));have eG:=J (b7.o.ext aJ);have dl:Hid (KG bo bo (.slice A1 xs.length c1) (.slice A1 xs.length c1) w w4):=J (KG.of_ext (ag.o.trans aJ));have od:=ag.o.size;clear q0 aS aJ;have hz:([]:List Nat).length=0:=rfl;rw[hz];clear bO hz;go_wp2_with fail;go_loopw [26] (fun s26 wr=>s26= .int .i64 0/\Er w0 g bg bw bo wr (.slice A1 xs.length c1) xs/\Blk wr nb 95 #[.int .i64 kk,.int .i64 0,.int .i64 0,.int .i64 0,.string s]/\KG bo bo (.slice A1 xs.length c1) (.slice A1 xs.length c1) w wr) (fun s26 _=>0-(intOf s26).toNat)
  case atStart=>exact⟨rfl,rX.o,eG.o,dl.o⟩
  case round=>
   clear rX eG dl;obtain⟨rfl,fO,hnb,cd⟩:=hrel;have fi:=J fO;have aX:=J hnb;have cH:=J cd;clear fO hnb cd;have wT:xs.length+1<=4096:=ak;obtain⟨m2,cZ⟩:∃m2,m2=xs.length:=⟨_,rfl⟩;have dh:=J cZ;rw[<-cZ]at fi cH wT ⊢;clear cZ ak;unfold S0;have kU:m2<=4096:=by omega
   have cV:=J (fun w6 g6 c6 o hgr hat hn=>Er.next (w':=w6) (g6:=g6) (c6:=c6) (o:=o) (nd:=⟨kk,0,0,0,t⟩) fi.o hgr hat hn);have cX:=fi.o.ext.size;have bp:Hid ((wr.alloc (.cells #[.int .i64 kk,.int .i64 0,.int .i64 0,.int .i64 0,.string s] 95)).ownsRow w0.heap.size 95 5 (.slice A1 m2 c1) m2 (AN xs)):=J (Ac (by have h:=fi.o.row;unfold Ai at h;rw[<-dh.o]at h;exact h) (fun k _ hk=>Below.heap_alloc _ _ k hk));have a9:=J (AS wr 95 [.int .i64 kk,.int .i64 0,.int .i64 0,.int .i64 0,.string s]);have aI:Hid (m2+1<=maxLen):=J (by unfold maxLen;omega);have aH:Hid ((m2+1)*48<=140737488355328):=J (by omega);have aO:Hid (w0.heap.size<=(wr.alloc (.cells #[.int .i64 kk,.int .i64 0,.int .i64 0,.int .i64 0,.string s] 95)).heap.size):=J (by simp;omega);have q0:=aX.o.five;have o0:=fi.o.po.oneG;have aB:IntKind.i64.wrap ((m2:Int)+1-1)=(m2:Int):=by rw[IntKind.wrap_i64];omega
   have aY:IntKind.i64.wrap (((m2+1:Nat):Int)-1)=(m2:Int):=by rw[IntKind.wrap_i64];omega
   go_wp2_with (at_builtin;go_must (refine wpList_append_lies _ rfl _ _ 32 rfl w0.heap.size 95 i0 _ 5 48 Tryz.underlying32 i1 aR hz1 aU rfl (by decide) (.slice A1 m2 c1) m2 (AN xs) rfl bp.o ⟨wr.heap.size,0,none⟩ 1 1 [.int .i64 kk,.int .i64 0,.int .i64 0,.int .i64 0,.string s] rfl rfl a9.o (by simp[Value.oneCell']) (by decide) aI.o aH.o aO.o _ rfl ?_;intro g6 c6 w6 aq aw aG bu;have cj:Hid (Ai w0.heap.size w6 (.slice (some ⟨g6,0,none⟩) (xs.length+1) c6) (xs++[⟨kk,0,0,0,t⟩])):=J (by unfold Ai;rw[Bl,Bw,nh.o,qab,qae,<-dh.o];exact aq);have eH:=J (cV.o w6 g6 c6 _ aw aG cj.o);clear aq aw aG bu;rw[<-dh.o]at eH;have o1:=eH.o.2.2.oneG;have u0:=eH.o.1.po.oneG));go_ret;have e:=dh.o;subst e;refine⟨_,?_,cH.o.trans eH.o.2.1,?_⟩
   ·have hv:xs.length+1-1=xs.length:=by omega
    show _=Ending.returned (.int .i64 ((xs.length+1-1:Nat):Int));rw[hv];rfl
   ·have h:=eH.o.1;rw[Ag,hkk];exact h
 |un k n x ih=>
  intro i w v xs be bX hw ak;obtain⟨j,sP,hx⟩:=bX;have nM:=J (fun W v xs h hl=>ih j W v xs be.2.2.2.2 sP h hl);have hi:i<ns.length:=(qai.1 hx).1;have an:=hg.ok.2 i _ hx;have hfew:=hg.few;have aS:=J (fun W=>FU W ⟨(k:Int),(j:Int),0,n,[]⟩ an);have mS:BA ⟨(k:Int),(j:Int),0,n,[]⟩=[j]:=CG (show Nv k n from ⟨be.1,be.2.1,be.2.2.1,be.2.2.2.1⟩);rw[mS]at aS;unfold Hk at aS;obtain⟨i0,i1,aR,hz1,aU⟩:=info_parts BI;obtain⟨gb,o,hA,bC,hc⟩:∃gb o,(∃c,nv= .slice (some ⟨gb,o,none⟩) ns.length c)/\gb<w0.heap.size/\Hj w0 gb (o+i*5) ⟨(k:Int),(j:Int),0,n,[]⟩:=by
   obtain⟨A,c,rfl,h1⟩:=hg.row.read;obtain⟨gb,o,rfl,h2,h3⟩:=h1 (by omega);have h4:=h3 i hi;rw[(qai.1 hx).2]at h4;exact⟨gb,o,⟨c,rfl⟩,h2,h4⟩
  obtain⟨cg,eZ⟩:=hA;obtain⟨p0,p1,p2,p3,p4⟩:=hc;rw[<-hw.ext.cell bC]at p0 p1 p2 p3 p4;obtain⟨k0,k1,f0,f1,ea⟩:=(hg.keep hw.ext).blk.twoG;rw[eZ]at k0;have g0:=hw.pg.oneG;have HW:=J hw;have cX:=hw.ext.size;have kX:=hw.po.lt;have dW:(0:Int)<=(i:Int):=by omega
  have hin:(i:Int)<(ns.length:Int):=by omega
  have jo:v.ownBlock≠some w.heap.size:=fun e=>by have:=Aj hw.row e;omega
  obtain⟨A1,c1,rfl⟩:=hw.row.shape;simp only[ndV]at aS;simp only at p0 p1 p2 p3 p4;generalize hkk:(k:Int)=kk at *;obtain⟨s,hs⟩:∃s:ByteArray,s=⟨([]:List UInt8).toArray⟩:=⟨_,rfl⟩;have nh:Hid (∀za zb:Int,ndC ⟨kk,za,zb,n,[]⟩=[.int .i64 kk,.int .i64 za,.int .i64 zb,.int .i64 n,.string s]):=J (fun za zb=>by rw[hs];rfl);have af:str []= .string s:=by rw[hs];rfl
  rw[af]at p4 aS;clear hs af an hx hi hw;have b7:=J (Blk.new w 95 #[.int .i64 kk,.int .i64 (j:Int),.int .i64 0,.int .i64 n,.string s]);have ag:=J ((Ext.refl w).alloc (.cells #[.int .i64 kk,.int .i64 (j:Int),.int .i64 0,.int .i64 n,.string s] 95));obtain⟨nb,hnb⟩:∃nb,nb=w.heap.size:=⟨_,rfl⟩;obtain⟨w3,a5⟩:∃w3,w3=w.alloc (.cells #[.int .i64 kk,.int .i64 (j:Int),.int .i64 0,.int .i64 n,.string s] 95):=⟨_,rfl⟩;rw[<-a5,<-hnb]at b7;rw[<-a5]at ag;rw[<-hnb]at jo;go_enter Tryz.func115,Tryz.ntmps115;go_upto_region 2 with fail;rw[<-a5,<-hnb];have lG:Hid (nb=w.heap.size):=J hnb;have bJ:Hid (w0.heap.size<=nb/\nb≠bg/\nb≠bw/\nb≠bo/\w.heap.size<=nb):=J (by have h1:=HW.o.pg.lt;have h2:=HW.o.pw.lt;exact⟨by omega,by omega,by omega,by omega,by omega⟩);clear a5 hnb p0 p1 p2 p3 p4 k0 k1 f0 f1 g0;have q0:=b7.o.five;go_wp2_with fail;refine(aS.o w3).mono ?_
  rintro e w4 ⟨A3,c3,rfl,aJ,bO⟩;have rX:=J (HW.o.keep (ag.o.trans aJ));have eG:=J (b7.o.ext aJ);have dl:Hid (KG bo bo (.slice A1 xs.length c1) (.slice A1 xs.length c1) w w4):=J (KG.of_ext (ag.o.trans aJ));have od:=ag.o.size;clear q0 aS aJ;have hz:([j]:List Nat).length=1:=rfl;rw[hz]at bO ⊢;clear hz;obtain⟨b3,rfl,lx,lu,aa⟩:=bO (by decide);clear bO;have y0:w4.cell? ⟨b3,0,none⟩=some (.int .i64 (j:Int)):=aa 0 (by decide);have pU:=b7.o.lt;have aC:Hid (b3≠bo/\(Value.slice A1 xs.length c1).ownBlock≠some b3/\b3≠nb):=J ⟨by have:=bJ.o;omega,fun e=>by have:=Aj HW.o.row e;omega,by omega⟩;clear aa lx lu pU;have hsz:xs.length+(x.size+1)<=4096:=ak;clear ak;obtain⟨bW,eY⟩:∃bW,bW=xs++Ag xs.length x:=⟨_,rfl⟩;have hl1:bW.length=xs.length+x.size:=by rw[eY,qab,Ak]
  have iL:=J eY;have gR:=J hl1;obtain⟨ix,wX⟩:∃ix:Int,ix=((xs.length+x.size-1:Nat):Int):=⟨_,rfl⟩;have jL:=J wX;clear eY wX hl1;have li:IntKind.i64.wrap ((0:Int)+1)=1:=by decide
  have sI:IntKind.i64.wrap ((1:Int)+1)=2:=by decide
  go_wp2_with fail;go_loopw [26] (fun s26 wr=>(s26= .int .i64 0/\Er w0 g bg bw bo wr (.slice A1 xs.length c1) xs/\Blk wr nb 95 #[.int .i64 kk,.int .i64 (j:Int),.int .i64 0,.int .i64 n,.string s]/\KG bo bo (.slice A1 xs.length c1) (.slice A1 xs.length c1) w wr/\wr.cell? ⟨b3,0,none⟩=some (.int .i64 (j:Int)))\/(s26= .int .i64 1/\∃v1,v1.ownBlock≠some nb/\Er w0 g bg bw bo wr v1 bW/\Blk wr nb 95 #[.int .i64 kk,.int .i64 ix,.int .i64 0,.int .i64 n,.string s]/\KG bo bo (.slice A1 xs.length c1) v1 w wr)) (fun s26 _=>1-(intOf s26).toNat)
  case atStart=>exact .inl ⟨rfl,rX.o,eG.o,dl.o,y0⟩
  case round=>
   clear rX eG dl y0;rcases hrel with ⟨rfl,fO,hnb,cd,y0⟩|⟨rfl,v1,sJ,fO,hnb,cd⟩
   ·have fi:=J fO;have aX:=J hnb;have cH:=J cd;clear fO hnb cd;obtain⟨f0,tW,xL⟩:=fi.o.pw.oneG;go_wp2_with fail;refine(nM.o wr _ xs fi.o (by have:=gR.o;omega)).mono ?_
    rintro e w5 ⟨v5,rfl,bM,cA⟩;have dJ:=J (bM.blk aX.o bJ.o.2.2.2.1 bJ.o.2.2.2.1 jo);have fq:v5.ownBlock≠some nb:=fun e=>by
     rcases bM.move nb e with h|h
     ·exact jo h
     ·have:=aX.o.lt;omega
    have lB:=J fq;rw[<-iL.o]at cA;rw[<-jL.o];have ya:=J cA;have b9:=J bM;clear cA bM fq f0 tW xL y0;have z1:=dJ.o.cell 1;have Xg:=dJ.o.frozen 1;go_wp2_with fail;go_roundw
    case rel=>
     exact .inr ⟨by go_num,v5,lB.o,ya.o.far bJ.o.1 bJ.o.2.1 bJ.o.2.2.1 bJ.o.2.2.2.1 lB.o 1 (.int .i64 ix),Blk.set_ dJ.o 1 (.int .i64 ix),(cH.o.trans b9.o).setNew bJ.o.2.2.2.2 1 (.int .i64 ix)⟩
    case measure=>simp[intOf]
   ·have fi:=J fO;have aX:=J hnb;have cH:=J cd;clear fO hnb cd;obtain⟨A2,c2,rfl⟩:=fi.o.row.shape;obtain⟨m2,cZ⟩:∃m2,m2=bW.length:=⟨_,rfl⟩;have dh:=J cZ;have Vj:m2+1<=4096:=by have h1:=gR.o;omega
    rw[<-cZ]at fi cH;clear cZ hsz;have kU:m2<=4096:=by omega
    have cV:=J (fun w6 g6 c6 o hgr hat hn=>Er.next (w':=w6) (g6:=g6) (c6:=c6) (o:=o) (nd:=⟨kk,ix,0,n,[]⟩) fi.o hgr hat hn);have cX:=fi.o.ext.size;have bp:Hid ((wr.alloc (.cells #[.int .i64 kk,.int .i64 ix,.int .i64 0,.int .i64 n,.string s] 95)).ownsRow w0.heap.size 95 5 (.slice A2 m2 c2) m2 (AN bW)):=J (Ac (by have h:=fi.o.row;unfold Ai at h;rw[<-dh.o]at h;exact h) (fun k _ hk=>Below.heap_alloc _ _ k hk));have a9:=J (AS wr 95 [.int .i64 kk,.int .i64 ix,.int .i64 0,.int .i64 n,.string s]);have aI:Hid (m2+1<=maxLen):=J (by unfold maxLen;omega);have aH:Hid ((m2+1)*48<=140737488355328):=J (by omega);have aO:Hid (w0.heap.size<=(wr.alloc (.cells #[.int .i64 kk,.int .i64 ix,.int .i64 0,.int .i64 n,.string s] 95)).heap.size):=J (by simp;omega);have q0:=aX.o.five;have o0:=fi.o.po.oneG;have aB:IntKind.i64.wrap ((m2:Int)+1-1)=(m2:Int):=by rw[IntKind.wrap_i64];omega
    have aY:IntKind.i64.wrap (((m2+1:Nat):Int)-1)=(m2:Int):=by rw[IntKind.wrap_i64];omega
    go_wp2_with (at_builtin;go_must (refine wpList_append_lies _ rfl _ _ 32 rfl w0.heap.size 95 i0 _ 5 48 Tryz.underlying32 i1 aR hz1 aU rfl (by decide) (.slice A2 m2 c2) m2 (AN bW) rfl bp.o ⟨wr.heap.size,0,none⟩ 1 1 [.int .i64 kk,.int .i64 ix,.int .i64 0,.int .i64 n,.string s] rfl rfl a9.o (by simp[Value.oneCell']) (by decide) aI.o aH.o aO.o _ rfl ?_;intro g6 c6 w6 aq aw aG bu;have cj:Hid (Ai w0.heap.size w6 (.slice (some ⟨g6,0,none⟩) (bW.length+1) c6) (bW++[⟨kk,ix,0,n,[]⟩])):=J (by unfold Ai;rw[Bl,Bw,nh.o,qab,qae,<-dh.o];exact aq);have eH:=J (cV.o w6 g6 c6 _ aw aG cj.o);clear aq aw aG bu;rw[<-dh.o]at eH;have o1:=eH.o.2.2.oneG;have u0:=eH.o.1.po.oneG));go_ret;have e:=dh.o;subst e;refine⟨_,?_,cH.o.trans eH.o.2.1,?_⟩
    ·have hv:xs.length+(x.size+1)-1=bW.length:=by have h1:=gR.o;omega
     show _=Ending.returned (.int .i64 ((xs.length+(x.size+1)-1:Nat):Int));rw[hv];rfl
    ·have h:=eH.o.1;rw[Ag,hkk,<-qan,<-iL.o,<-jL.o];exact h
 |bin k x y ihx ihy=>
  intro i w v xs be bX hw ak;obtain⟨j,q,sP,ru,hx⟩:=bX;have WX:=J (fun W v xs h hl=>ihx j W v xs be.2.1 sP h hl);have WW:=J (fun W v xs h hl=>ihy q W v xs be.2.2 ru h hl);have hi:i<ns.length:=(qai.1 hx).1;have an:=hg.ok.2 i _ hx;have hfew:=hg.few;have aS:=J (fun W=>FU W ⟨(k:Int),(j:Int),(q:Int),0,[]⟩ an);have mS:BA ⟨(k:Int),(j:Int),(q:Int),0,[]⟩=[j,q]:=B0 be.1;rw[mS]at aS;unfold Hk at aS;obtain⟨i0,i1,aR,hz1,aU⟩:=info_parts BI;obtain⟨gb,o,hA,bC,hc⟩:∃gb o,(∃c,nv= .slice (some ⟨gb,o,none⟩) ns.length c)/\gb<w0.heap.size/\Hj w0 gb (o+i*5) ⟨(k:Int),(j:Int),(q:Int),0,[]⟩:=by
   obtain⟨A,c,rfl,h1⟩:=hg.row.read;obtain⟨gb,o,rfl,h2,h3⟩:=h1 (by omega);have h4:=h3 i hi;rw[(qai.1 hx).2]at h4;exact⟨gb,o,⟨c,rfl⟩,h2,h4⟩
  obtain⟨cg,eZ⟩:=hA;obtain⟨p0,p1,p2,p3,p4⟩:=hc;rw[<-hw.ext.cell bC]at p0 p1 p2 p3 p4;obtain⟨k0,k1,f0,f1,ea⟩:=(hg.keep hw.ext).blk.twoG;rw[eZ]at k0;have g0:=hw.pg.oneG;have HW:=J hw;have cX:=hw.ext.size;have kX:=hw.po.lt;have dW:(0:Int)<=(i:Int):=by omega
  have hin:(i:Int)<(ns.length:Int):=by omega
  have jo:v.ownBlock≠some w.heap.size:=fun e=>by have:=Aj hw.row e;omega
  obtain⟨A1,c1,rfl⟩:=hw.row.shape;simp only[ndV]at aS;simp only at p0 p1 p2 p3 p4;generalize hkk:(k:Int)=kk at *;obtain⟨s,hs⟩:∃s:ByteArray,s=⟨([]:List UInt8).toArray⟩:=⟨_,rfl⟩;have nh:Hid (∀za zb:Int,ndC ⟨kk,za,zb,0,[]⟩=[.int .i64 kk,.int .i64 za,.int .i64 zb,.int .i64 0,.string s]):=J (fun za zb=>by rw[hs];rfl);have af:str []= .string s:=by rw[hs];rfl
  rw[af]at p4 aS;clear hs af an hx hi hw;have b7:=J (Blk.new w 95 #[.int .i64 kk,.int .i64 (j:Int),.int .i64 (q:Int),.int .i64 0,.string s]);have ag:=J ((Ext.refl w).alloc (.cells #[.int .i64 kk,.int .i64 (j:Int),.int .i64 (q:Int),.int .i64 0,.string s] 95));obtain⟨nb,hnb⟩:∃nb,nb=w.heap.size:=⟨_,rfl⟩;obtain⟨w3,a5⟩:∃w3,w3=w.alloc (.cells #[.int .i64 kk,.int .i64 (j:Int),.int .i64 (q:Int),.int .i64 0,.string s] 95):=⟨_,rfl⟩;rw[<-a5,<-hnb]at b7;rw[<-a5]at ag;rw[<-hnb]at jo;go_enter Tryz.func115,Tryz.ntmps115;go_upto_region 2 with fail;rw[<-a5,<-hnb];have lG:Hid (nb=w.heap.size):=J hnb;have bJ:Hid (w0.heap.size<=nb/\nb≠bg/\nb≠bw/\nb≠bo/\w.heap.size<=nb):=J (by have h1:=HW.o.pg.lt;have h2:=HW.o.pw.lt;exact⟨by omega,by omega,by omega,by omega,by omega⟩);clear a5 hnb p0 p1 p2 p3 p4 k0 k1 f0 f1 g0;have q0:=b7.o.five;go_wp2_with fail;refine(aS.o w3).mono ?_
  rintro e w4 ⟨A3,c3,rfl,aJ,bO⟩;have rX:=J (HW.o.keep (ag.o.trans aJ));have eG:=J (b7.o.ext aJ);have dl:Hid (KG bo bo (.slice A1 xs.length c1) (.slice A1 xs.length c1) w w4):=J (KG.of_ext (ag.o.trans aJ));have od:=ag.o.size;clear q0 aS aJ;have hz:([j,q]:List Nat).length=2:=rfl;rw[hz]at bO ⊢;clear hz;obtain⟨b3,rfl,lx,lu,aa⟩:=bO (by decide);clear bO;have y0:w4.cell? ⟨b3,0,none⟩=some (.int .i64 (j:Int)):=aa 0 (by decide);have y1:w4.cell? ⟨b3,1,none⟩=some (.int .i64 (q:Int)):=aa 1 (by decide);have pU:=b7.o.lt;have aC:Hid (b3≠bo/\(Value.slice A1 xs.length c1).ownBlock≠some b3/\b3≠nb):=J ⟨by have:=bJ.o;omega,fun e=>by have:=Aj HW.o.row e;omega,by omega⟩;clear aa lx lu pU;have hsz:xs.length+(x.size+y.size+1)<=4096:=ak;clear ak;obtain⟨bW,eY⟩:∃bW,bW=xs++Ag xs.length x:=⟨_,rfl⟩;have hl1:bW.length=xs.length+x.size:=by rw[eY,qab,Ak]
  have iL:=J eY;have gR:=J hl1;obtain⟨ix,wX⟩:∃ix:Int,ix=((xs.length+x.size-1:Nat):Int):=⟨_,rfl⟩;have jL:=J wX;clear eY wX hl1;obtain⟨eX,lf⟩:∃eX,eX=bW++Ag bW.length y:=⟨_,rfl⟩;have hl2:eX.length=bW.length+y.size:=by rw[lf,qab,Ak]
  have pd:=J lf;have dR:=J hl2;obtain⟨iy,X0⟩:∃iy:Int,iy=((bW.length+y.size-1:Nat):Int):=⟨_,rfl⟩;have q7:=J X0;clear lf X0 hl2;have li:IntKind.i64.wrap ((0:Int)+1)=1:=by decide
  have sI:IntKind.i64.wrap ((1:Int)+1)=2:=by decide
  go_wp2_with fail;go_loopw [26] (fun s26 wr=>(s26= .int .i64 0/\Er w0 g bg bw bo wr (.slice A1 xs.length c1) xs/\Blk wr nb 95 #[.int .i64 kk,.int .i64 (j:Int),.int .i64 (q:Int),.int .i64 0,.string s]/\KG bo bo (.slice A1 xs.length c1) (.slice A1 xs.length c1) w wr/\wr.cell? ⟨b3,0,none⟩=some (.int .i64 (j:Int))/\wr.cell? ⟨b3,1,none⟩=some (.int .i64 (q:Int)))\/(s26= .int .i64 1/\∃v1,v1.ownBlock≠some nb/\Er w0 g bg bw bo wr v1 bW/\Blk wr nb 95 #[.int .i64 kk,.int .i64 ix,.int .i64 (q:Int),.int .i64 0,.string s]/\KG bo bo (.slice A1 xs.length c1) v1 w wr/\wr.cell? ⟨b3,1,none⟩=some (.int .i64 (q:Int)))\/(s26= .int .i64 2/\∃v2,Er w0 g bg bw bo wr v2 eX/\Blk wr nb 95 #[.int .i64 kk,.int .i64 ix,.int .i64 iy,.int .i64 0,.string s]/\KG bo bo (.slice A1 xs.length c1) v2 w wr)) (fun s26 _=>2-(intOf s26).toNat)
  case atStart=>exact .inl ⟨rfl,rX.o,eG.o,dl.o,y0,y1⟩
  case round=>
   clear rX eG dl y0 y1;rcases hrel with ⟨rfl,fO,hnb,cd,y0,y1⟩|⟨rfl,v1,sJ,fO,hnb,cd,y1⟩|⟨rfl,v2,fO,hnb,cd⟩
   ·have fi:=J fO;have aX:=J hnb;have cH:=J cd;clear fO hnb cd;obtain⟨f0,tW,xL⟩:=fi.o.pw.oneG;go_wp2_with fail;refine(WX.o wr _ xs fi.o (by have:=gR.o;omega)).mono ?_
    rintro e w5 ⟨v5,rfl,bM,cA⟩;have dJ:=J (bM.blk aX.o bJ.o.2.2.2.1 bJ.o.2.2.2.1 jo);have fq:v5.ownBlock≠some nb:=fun e=>by
     rcases bM.move nb e with h|h
     ·exact jo h
     ·have:=aX.o.lt;omega
    have lB:=J fq;have Wn:Hid (w5.cell? ⟨b3,1,none⟩=some (.int .i64 (q:Int))):=J ((World.cell?_of_block (a:=⟨b3,1,none⟩) (bM.block b3 (World.block_lt_of_cell? wr _ y1) aC.o.1 aC.o.1 aC.o.2.1)).trans y1);rw[<-iL.o]at cA;rw[<-jL.o];have ya:=J cA;have b9:=J bM;clear cA bM fq f0 tW xL y0 y1;have z1:=dJ.o.cell 1;have Xg:=dJ.o.frozen 1;go_wp2_with fail;go_roundw
    case rel=>
     exact .inr (.inl ⟨by go_num,v5,lB.o,ya.o.far bJ.o.1 bJ.o.2.1 bJ.o.2.2.1 bJ.o.2.2.2.1 lB.o 1 (.int .i64 ix),Blk.set_ dJ.o 1 (.int .i64 ix),(cH.o.trans b9.o).setNew bJ.o.2.2.2.2 1 (.int .i64 ix),(World.cell?_of_block (a:=⟨b3,1,none⟩) (Below.heap_setCell _ _ _ b3 aC.o.2.2)).trans Wn.o⟩)
    case measure=>simp[intOf]
   ·have fi:=J fO;have aX:=J hnb;have cH:=J cd;clear fO hnb cd;obtain⟨f0,tW,xL⟩:=fi.o.pw.oneG;go_wp2_with fail;refine(WW.o wr _ bW fi.o (by have:=gR.o;omega)).mono ?_
    rintro e w5 ⟨v5,rfl,bM,cA⟩;have dJ:=J (bM.blk aX.o bJ.o.2.2.2.1 bJ.o.2.2.2.1 sJ);have fq:v5.ownBlock≠some nb:=fun e=>by
     rcases bM.move nb e with h|h
     ·exact sJ h
     ·have:=aX.o.lt;omega
    have lB:=J fq;rw[<-pd.o]at cA;rw[<-q7.o];have ya:=J cA;have b9:=J bM;clear cA bM fq f0 tW xL y1;have z1:=dJ.o.cell 2;have Xg:=dJ.o.frozen 2;go_wp2_with fail;go_roundw
    case rel=>
     exact .inr (.inr ⟨by go_num,v5,ya.o.far bJ.o.1 bJ.o.2.1 bJ.o.2.2.1 bJ.o.2.2.2.1 lB.o 2 (.int .i64 iy),Blk.set_ dJ.o 2 (.int .i64 iy),(cH.o.trans b9.o).setNew bJ.o.2.2.2.2 2 (.int .i64 iy)⟩)
    case measure=>simp[intOf]
   ·have fi:=J fO;have aX:=J hnb;have cH:=J cd;clear fO hnb cd;obtain⟨A2,c2,rfl⟩:=fi.o.row.shape;obtain⟨m2,cZ⟩:∃m2,m2=eX.length:=⟨_,rfl⟩;have dh:=J cZ;have Vj:m2+1<=4096:=by have h1:=gR.o;have h2:=dR.o;omega
    rw[<-cZ]at fi cH;clear cZ hsz;have kU:m2<=4096:=by omega
    have cV:=J (fun w6 g6 c6 o hgr hat hn=>Er.next (w':=w6) (g6:=g6) (c6:=c6) (o:=o) (nd:=⟨kk,ix,iy,0,[]⟩) fi.o hgr hat hn);have cX:=fi.o.ext.size;have bp:Hid ((wr.alloc (.cells #[.int .i64 kk,.int .i64 ix,.int .i64 iy,.int .i64 0,.string s] 95)).ownsRow w0.heap.size 95 5 (.slice A2 m2 c2) m2 (AN eX)):=J (Ac (by have h:=fi.o.row;unfold Ai at h;rw[<-dh.o]at h;exact h) (fun k _ hk=>Below.heap_alloc _ _ k hk));have a9:=J (AS wr 95 [.int .i64 kk,.int .i64 ix,.int .i64 iy,.int .i64 0,.string s]);have aI:Hid (m2+1<=maxLen):=J (by unfold maxLen;omega);have aH:Hid ((m2+1)*48<=140737488355328):=J (by omega);have aO:Hid (w0.heap.size<=(wr.alloc (.cells #[.int .i64 kk,.int .i64 ix,.int .i64 iy,.int .i64 0,.string s] 95)).heap.size):=J (by simp;omega);have q0:=aX.o.five;have o0:=fi.o.po.oneG;have aB:IntKind.i64.wrap ((m2:Int)+1-1)=(m2:Int):=by rw[IntKind.wrap_i64];omega
    have aY:IntKind.i64.wrap (((m2+1:Nat):Int)-1)=(m2:Int):=by rw[IntKind.wrap_i64];omega
    go_wp2_with (at_builtin;go_must (refine wpList_append_lies _ rfl _ _ 32 rfl w0.heap.size 95 i0 _ 5 48 Tryz.underlying32 i1 aR hz1 aU rfl (by decide) (.slice A2 m2 c2) m2 (AN eX) rfl bp.o ⟨wr.heap.size,0,none⟩ 1 1 [.int .i64 kk,.int .i64 ix,.int .i64 iy,.int .i64 0,.string s] rfl rfl a9.o (by simp[Value.oneCell']) (by decide) aI.o aH.o aO.o _ rfl ?_;intro g6 c6 w6 aq aw aG bu;have cj:Hid (Ai w0.heap.size w6 (.slice (some ⟨g6,0,none⟩) (eX.length+1) c6) (eX++[⟨kk,ix,iy,0,[]⟩])):=J (by unfold Ai;rw[Bl,Bw,nh.o,qab,qae,<-dh.o];exact aq);have eH:=J (cV.o w6 g6 c6 _ aw aG cj.o);clear aq aw aG bu;rw[<-dh.o]at eH;have o1:=eH.o.2.2.oneG;have u0:=eH.o.1.po.oneG));go_ret;have e:=dh.o;subst e;refine⟨_,?_,cH.o.trans eH.o.2.1,?_⟩
    ·have hv:xs.length+(x.size+y.size+1)-1=eX.length:=by have h1:=gR.o;have h2:=dR.o;omega
     show _=Ending.returned (.int .i64 ((xs.length+(x.size+y.size+1)-1:Nat):Int));rw[hv];rfl
    ·have h:=eH.o.1;rw[Ag,hkk,<-jL.o,<-gR.o,<-qan,<-iL.o,<-qan,<-pd.o,<-q7.o];exact h
def C4(ns:List Nd)(i:Int)(L:List Nd)(c:Int):Prop:=
 if 0<=i/\i<(ns.length:Int) then ∃e:Ex,e.Good/\Rep ns i.toNat e/\((e.size<=200/\e.depth<=40/\L=Ag 0 e/\c=0)\/(¬(e.size<=200/\e.depth<=40)/\L=[]/\c=7)) else L=[]/\c=1
theorem C4.ok{ns:List Nd}{i:Nat}{e:Ex}(hi:i<ns.length)(hg:e.Good)(hr:Rep ns i e)(h1:e.size<=200)(h2:e.depth<=40):C4 ns (i:Int) (Ag 0 e) 0:=by
 unfold C4;rw[if_pos ⟨by omega,by omega⟩,qaq];exact⟨e,hg,hr,.inl ⟨h1,h2,rfl,rfl⟩⟩
theorem C4.big{ns:List Nd}{i:Nat}{e:Ex}(hi:i<ns.length)(hg:e.Good)(hr:Rep ns i e)(h:¬(e.size<=200/\e.depth<=40)):C4 ns (i:Int) [] 7:=by
 unfold C4;rw[if_pos ⟨by omega,by omega⟩,qaq];exact⟨e,hg,hr,.inr ⟨h,rfl,rfl⟩⟩
theorem C4.o{ns:List Nd}{i:Int}(h:i<0\/(ns.length:Int)<=i):C4 ns i [] 1:=by
 unfold C4;rw[if_neg (by omega)];exact⟨rfl,rfl⟩
theorem RNd.nilG(w:World):RNd w (.slice none 0 0) []:=⟨none,0,rfl,fun h=>absurd h (by decide)⟩
def J9(ns:List Nd)(i:Int)(w:World)(e:Ending)(w':World):Prop:=∃v L c,e= .returned (.tuple #[v,.int .i64 c])/\RNd w' v L/\C4 ns i L c/\L.length<=200/\Ext w w'
theorem Sz(B g b:Nat)(w:World)(ns:List Nd)(nv:Value)(h:GrP B g b w ns nv)(i:Nat)(hi:i<ns.length):
  Calls Tryz.prog 55 #[.pointer (some ⟨g,0,none⟩),.int .i64 (i:Int)] w (J9 ns (i:Int) w):=by
 obtain⟨e,be,bX⟩:=h.ok.rep i hi;have hfew:=h.few;have fV:=J (fun W (hx:Ext w W)=>OB B g b W ns nv (h.keep hx) i hi);have hbg:=(Re ns hi).trans (SQ h.ok be bX);have jU:=(JR ns hi).trans (K9 h.ok be bX);have eM:=JX (ns.take (i+1));have jT:=EY (ns.take (i+1));rw[qas,qaV (by omega)]at eM jT;have Y4:=J hbg;have i9:=J jU;have fi:=J (fun bg bw bo W hw hl=>PG B g b w ns nv h bg bw bo e i W (.slice none 0 0) [] be bX hw hl);have bV:=J (fun h1 h2=>C4.ok hi be bX h1 h2);have vn:=J (fun h1=>C4.big hi be bX h1);have mG:=e.size_pos;obtain⟨k0,k1,_,_,ea⟩:=h.blk.twoG;obtain⟨A,c,rfl⟩:=h.row.shape;have aA:=J (Blk.new w 50 #[.pointer (some ⟨g,0,none⟩)]);have ah:=J ((Ext.refl w).alloc (.cells #[.pointer (some ⟨g,0,none⟩)] 50));obtain⟨bg,jA⟩:∃bg,bg=w.heap.size:=⟨_,rfl⟩;obtain⟨w1,aB⟩:∃w1,w1=w.alloc (.cells #[.pointer (some ⟨g,0,none⟩)] 50):=⟨_,rfl⟩;rw[<-aB,<-jA]at aA;rw[<-aB]at ah;have YX:=J (fun W (hx:Ext w W)=>(h.keep hx).blk.twoG);obtain⟨m,hm⟩:∃m,m=i+1:=⟨_,rfl⟩;rw[<-hm]at fV Y4 i9 eM jT;have dW:(0:Int)<=(i:Int):=by omega
 have X2:(i:Int)<(m:Int):=by omega
 have hin:(i:Int)<(ns.length:Int):=by omega
 have mQ:decide ((i:Int)<0)=false:=decide_eq_false (by omega);have ec:decide ((i:Int)>=(ns.length:Int))=false:=decide_eq_false (by omega);have bE:decide ((ns.length:Int)<=(i:Int))=false:=decide_eq_false (by omega);have oR:decide (ns.length<=i)=false:=decide_eq_false (by omega);clear h be bX hbg jU hi k0 k1 ea;go_enter Tryz.func55,Tryz.ntmps55;go_upto_region 1 with fail;rw[<-aB,<-jA];have HBZ:Hid (w.heap.size<=bg):=J (by omega);clear aB jA hm;have g0:=aA.o.oneG;obtain⟨k0,k1,f0,f1,ea⟩:=YX.o w1 ah.o;go_wp2_with fail;refine(fV.o w1 ah.o).mono ?_
 rintro r w2 ⟨bs,bd,rfl,rM,hbd,al⟩;have z1:=rM.cell i;rw[Bd _ _ (by omega),Y4.o]at z1;have z2:=hbd.cell i;rw[Bd _ _ (by omega),i9.o]at z2;have am:=J (ah.o.trans al);have aF:=J (aA.o.ext al);clear rM hbd al fV g0 k0 k1 f0 f1 ea aA ah;by_cases h1:e.size<=200
 ·have e1:min e.size 201=e.size:=qaV (by omega);rw[e1]at z1;have dU:decide ((e.size:Int)>200)=false:=decide_eq_false (by omega);have cn:decide ((200:Int)<(e.size:Int))=false:=decide_eq_false (by omega);have pU:decide (200<e.size)=false:=decide_eq_false (by omega);by_cases h2:e.depth<=40
  ·have rr:decide ((e.depth:Int)>40)=false:=decide_eq_false (by omega);have fI:decide ((40:Int)<(e.depth:Int))=false:=decide_eq_false (by omega);have jN:decide (40<e.depth)=false:=decide_eq_false (by omega);have tJ:=(Blk.new w2 32 #[.slice none 0 0]).ext ((Ext.refl _).alloc (.cells #[.nilFunc] 130));have oX:=Blk.new (w2.alloc (.cells #[.slice none 0 0] 32)) 130 #[.nilFunc];have aJ:=(am.o.alloc (.cells #[.slice none 0 0] 32)).alloc (.cells #[.nilFunc] 130);have oY:=(aF.o.ext ((Ext.refl _).alloc (.cells #[.slice none 0 0] 32))).ext ((Ext.refl _).alloc (.cells #[.nilFunc] 130));rw[World.size_alloc]at oX;have VQ:=aF.o.lt;go_upto_region 8 with fail;obtain⟨w4,hw4⟩:∃w4,w4=(w2.alloc (.cells #[.slice none 0 0] 32)).alloc (.cells #[.nilFunc] 130):=⟨_,rfl⟩;obtain⟨bo,kX⟩:∃bo,bo=w2.heap.size:=⟨_,rfl⟩;obtain⟨bw,i3⟩:∃bw,bw=w2.heap.size+1:=⟨_,rfl⟩;rw[<-hw4,<-kX]at tJ;rw[<-hw4,<-i3]at oX;rw[<-hw4]at aJ oY;rw[<-hw4,<-i3,<-kX];have bJ:Hid (bg≠bo/\bw≠bo/\bg≠bw/\w.heap.size<=bo/\w.heap.size<=bw):=J (by have h1:=am.o.size;omega);have z3:=oX.oneG;have fO:Er w g bg bw bo (w4.setCell ⟨bw,0,none⟩ (.func (.func 115) #[] #[.pointer (some ⟨bg,0,none⟩),.pointer (some ⟨bw,0,none⟩),.pointer (some ⟨bo,0,none⟩)])) (.slice none 0 0) []:=
    ⟨aJ.setCell (p:=⟨bw,0,none⟩) bJ.o.2.2.2.2 _,oY.far (p:=⟨bw,0,none⟩) bJ.o.2.2.1 _,oX.set_ 0 _,tJ.far (p:=⟨bw,0,none⟩) (fun h=>bJ.o.2.1 h.symm) _,Ai.nil _ _,HBZ.o,bJ.o.2.2.2.2,bJ.o.2.2.2.1,bJ.o.1,bJ.o.2.1⟩
   have YC:=J fO;clear hw4 kX i3 tJ oX aJ oY fO VQ z1 z2;go_upto_region 9 with fail;generalize (w4.setCell ⟨bw,0,none⟩ (.func (.func 115) #[] #[.pointer (some ⟨bg,0,none⟩),.pointer (some ⟨bw,0,none⟩),.pointer (some ⟨bo,0,none⟩)]))=w5 at *;obtain⟨f0,tW,fh0⟩:=YC.o.pw.oneG;clear z3;go_wp2_with fail;refine(fi.o bg bw bo w5 YC.o (by rw[qaE];omega)).mono ?_
   rintro r w6 ⟨v6,rfl,_,cY⟩;rw[qaG,qaE]at cY;have YD:=J cY;have WG:=J (bV.o h1 h2);obtain⟨A6,c6,rfl⟩:=cY.row.shape;have o0:=cY.po.oneG;clear cY f0 tW fh0;go_wp2_with fail;go_ret2;exact⟨_,_,0,rfl,YD.o.row.read,WG.o,by rw[Ak];exact h1,YD.o.ext⟩
  ·have rr:decide ((e.depth:Int)>40)=true:=decide_eq_true (by omega);have fI:decide ((40:Int)<(e.depth:Int))=true:=decide_eq_true (by omega);have jN:decide (40<e.depth)=true:=decide_eq_true (by omega);have my:=J (vn.o (fun h=>h2 h.2));go_wp2_with fail;go_ret2;exact⟨_,[],7,rfl,RNd.nilG _,my.o,by decide,am.o⟩
 ·have e1:min e.size 201=201:=Nat.min_eq_right (by omega);rw[e1]at z1;have my:=J (vn.o (fun h=>h1 h.1));clear h1;go_wp2_with fail;go_ret2;exact⟨_,[],7,rfl,RNd.nilG _,my.o,by decide,am.o⟩
structure KV (v v':Value) (w w':World):Prop where
 os:w'.os=w.os
 tape:w'.tape=w.tape
 output:w'.output=w.output
 size:w.heap.size<=w'.heap.size
 block:∀k,k<w.heap.size->v.ownBlock≠some k->w'.heap[k]? =w.heap[k]?
 move:∀j,v'.ownBlock=some j->v.ownBlock=some j\/w.heap.size<=j
theorem KV.of_ext{v:Value}{w w':World}(h:Ext w w'):KV v v w w':=⟨h.os,h.tape,h.output,h.size,fun k hk _=>h.block k hk,fun _ hj=> .inl hj⟩
theorem KV.trans{n1 n2 n3:Value}{w1 w2 w3:World}(h:KV n1 n2 w1 w2)(k:KV n2 n3 w2 w3):KV n1 n3 w1 w3:=
 ⟨k.os.trans h.os,k.tape.trans h.tape,k.output.trans h.output,qaf h.size k.size,fun i h1 h4=>
  (k.block i (qaj h1 h.size) (fun e=>by
   rcases h.move i e with h5|h5
   ·exact h4 h5
   ·omega)).trans (h.block i h1 h4),fun j hj=>by
  rcases k.move j hj with h4|h4
  ·exact h.move j h4
  ·exact .inr (qaf h.size h4)⟩
theorem KV.ext{v v':Value}{w0 w w':World}{l:List Nd}(h:KV v v' w w')(hx:Ext w0 w)(hr:Ai w0.heap.size w v l):Ext w0 w':=
 ⟨h.os.trans hx.os,h.tape.trans hx.tape,h.output.trans hx.output,qaf hx.size h.size,fun k hk=>(h.block k (qaj hk hx.size) (fun e=>by have:=Ay hr k e;omega)).trans (hx.block k hk)⟩
theorem KV.above{v v':Value}{w w1 w':World}(h:KV v v' w w1)(hb:Below w.heap.size w1 w'):KV v v' w w':=
 ⟨hb.os.trans h.os,hb.tape.trans h.tape,hb.output.trans h.output,qaf h.size hb.size,fun k p1 p2=>(hb.block k p1).trans (h.block k p1 p2),h.move⟩
def LW(w0:World)(w:World)(v:Value)(xs:List Nd)(e:Ex)(r:Ending)(w':World):Prop:=
 (xs.length+e.size<=200/\∃v',r= .returned (.tuple #[v',.bool true])/\Ai w0.heap.size w' v' (xs++Ag xs.length e)/\KV v v' w w')\/
 (200<xs.length+e.size/\∃A n c,r= .returned (.tuple #[.slice A n c,.bool false])/\Ext w0 w')
theorem Lf{w0 W w':World}{g6 c6:Nat}{v:Value}{xs:List Nd}{o:Obj}(hx:Ext w0 W)(hr:Ai w0.heap.size W v xs)(hgr:(W.alloc o).grownBy w' v.ownBlock)(hat:v.ownBlock=some g6\/g6=(W.alloc o).heap.size):
  KV v (.slice (some ⟨g6,0,none⟩) (xs.length+1) c6) W w'/\Ext w0 w':=by
 have hs:(W.alloc o).heap.size=W.heap.size+1:=by simp
 have hsz:=hgr.size;have hk:KV v (.slice (some ⟨g6,0,none⟩) (xs.length+1) c6) W w':=⟨hgr.os,hgr.tape,hgr.output,by omega,fun k h1 h2=>(hgr.block k (by omega) (fun e=>h2 e.symm)).trans (Below.heap_alloc W o k h1),fun j hj=>by
  have h6:g6=j:=qaA hj;rcases hat with h5|h5
  ·exact .inl (by rw[h5,h6])
  ·exact .inr (by omega)⟩
 exact⟨hk,hk.ext hx hr⟩
theorem AZ.atG{B n:Nat}{w w':World}{v:Value}{S:List Nat}(h:AZ B w v n S)(hk:∀k,v.ownBlock=some k->w'.heap[k]? =w.heap[k]?):AZ B w' v n S:=AD h hk
theorem NE(B g:Nat)(w0:World)(ns:List Nd)(rv:Value)(hg:GrR B g w0 ns rv)(e:Ex):∀(i:Nat) (w:World) (v:Value) (xs:List Nd),e.Good->Rep ns i e->Ext w0 w->Ai w0.heap.size w v xs->xs.length<=200->
  Calls Tryz.prog 113 #[.pointer (some ⟨g,0,none⟩),.int .i64 (i:Int),v] w (LW w0 w v xs e):=by
 induction e with
 |leaf k t=>
  intro i w v xs be bX ai au ak;have hx:ns[i]? =some ⟨(k:Int),0,0,0,t⟩:=bX
  have hi:i<ns.length:=(qai.1 hx).1;have an:=hg.ok.2 i _ hx;have hfew:=hg.few;have aS:=J (fun W=>D4 W ⟨(k:Int),0,0,0,t⟩ an);have mS:BA ⟨(k:Int),0,0,0,t⟩=[]:=Cd (show Es k t from be);rw[mS]at aS;unfold Hm at aS;obtain⟨i0,i1,aR,hz1,aU⟩:=info_parts BI;obtain⟨j0,vv,vu,vt,vr⟩:=info_parts DJ;obtain⟨gb,o,hA,bC,hc⟩:∃gb o,(∃c,rv= .slice (some ⟨gb,o,none⟩) ns.length c)/\gb<w0.heap.size/\Hj w0 gb (o+i*5) ⟨(k:Int),0,0,0,t⟩:=by
   obtain⟨A,c,rfl,h1⟩:=hg.row.read;obtain⟨gb,o,rfl,h2,h3⟩:=h1 (by omega);have h4:=h3 i hi;rw[(qai.1 hx).2]at h4;exact⟨gb,o,⟨c,rfl⟩,h2,h4⟩
  obtain⟨cg,eZ⟩:=hA;obtain⟨p0,p1,p2,p3,p4⟩:=hc;rw[<-ai.cell bC]at p0 p1 p2 p3 p4;obtain⟨k0,f0,ea⟩:=(hg.keep ai).blk.oneG;rw[eZ]at k0;have HX:=J ai;have HR:=J au;have cX:=ai.size;have dW:(0:Int)<=(i:Int):=by omega
  have hin:(i:Int)<(ns.length:Int):=by omega
  have jo:v.ownBlock≠some w.heap.size:=fun e=>by have:=Aj au e;omega
  obtain⟨A1,c1,rfl⟩:=au.shape;simp only[ndV]at aS;simp only at p0 p1 p2 p3 p4;generalize hkk:(k:Int)=kk at *;obtain⟨s,hs⟩:∃s:ByteArray,s=⟨(t:List UInt8).toArray⟩:=⟨_,rfl⟩;have nh:Hid (∀za zb:Int,ndC ⟨kk,za,zb,0,t⟩=[.int .i64 kk,.int .i64 za,.int .i64 zb,.int .i64 0,.string s]):=J (fun za zb=>by rw[hs];rfl);have af:str t= .string s:=by rw[hs];rfl
  rw[af]at p4 aS;clear hs af an hx hi ai au;have b7:=J (Blk.new w 95 #[.int .i64 kk,.int .i64 0,.int .i64 0,.int .i64 0,.string s]);have ag:=J ((Ext.refl w).alloc (.cells #[.int .i64 kk,.int .i64 0,.int .i64 0,.int .i64 0,.string s] 95));obtain⟨nb,hnb⟩:∃nb,nb=w.heap.size:=⟨_,rfl⟩;obtain⟨w3,a5⟩:∃w3,w3=w.alloc (.cells #[.int .i64 kk,.int .i64 0,.int .i64 0,.int .i64 0,.string s] 95):=⟨_,rfl⟩;rw[<-a5,<-hnb]at b7;rw[<-a5]at ag;rw[<-hnb]at jo;go_enter Tryz.func113,Tryz.ntmps113;go_upto_region 2 with fail;rw[<-a5,<-hnb];have lG:Hid (nb=w.heap.size):=J hnb;clear a5 hnb p0 p1 p2 p3 p4 k0 f0;have q0:=b7.o.five;go_wp2_with fail;refine(aS.o w3).mono ?_
  rintro e w4 ⟨A3,c3,rfl,aJ,bO⟩;have aD:=J (HX.o.trans (ag.o.trans aJ));have cJ:=J (HR.o.ext (ag.o.trans aJ));have eG:=J (b7.o.ext aJ);have dl:Hid (KV (.slice A1 xs.length c1) (.slice A1 xs.length c1) w w4):=J (KV.of_ext (ag.o.trans aJ));have od:=ag.o.size;have vY:=aJ.size;clear q0 aS;have hz:([]:List Nat).length=0:=rfl;rw[hz];clear bO hz aJ;go_wp2_with fail;go_loopw [2,9,23] (fun s2 s9 s23 wr=>s2=(.slice A1 xs.length c1)/\s9= .slice none 0 0/\s23= .int .i64 0/\Ai w0.heap.size wr (.slice A1 xs.length c1) xs/\Blk wr nb 95 #[.int .i64 kk,.int .i64 0,.int .i64 0,.int .i64 0,.string s]/\KV (.slice A1 xs.length c1) (.slice A1 xs.length c1) w wr/\Ext w0 wr) (fun _ _ s23 _=>0-(intOf s23).toNat)
  case atStart=>exact⟨rfl,rfl,rfl,cJ.o,eG.o,dl.o,aD.o⟩
  case round=>
   clear cJ eG dl aD;obtain⟨rfl,rfl,rfl,fQ,hnb,cd,j7⟩:=hrel;have cr:=J fQ;have aX:=J hnb;have cH:=J cd;have fT:=J j7;clear fQ hnb cd j7;obtain⟨m2,cZ⟩:∃m2,m2=xs.length:=⟨_,rfl⟩;have dh:=J cZ;rw[<-cZ]at cr cH ak ⊢;clear cZ;unfold LW;have sF:=fT.o.size;have bp:Hid ((wr.alloc (.cells #[.int .i64 kk,.int .i64 0,.int .i64 0,.int .i64 0,.string s] 95)).ownsRow w0.heap.size 95 5 (.slice A1 m2 c1) m2 (AN xs)):=J (Ac (by have h:=cr.o;unfold Ai at h;rw[<-dh.o]at h;exact h) (fun k _ hk=>Below.heap_alloc _ _ k hk));have a9:=J (AS wr 95 [.int .i64 kk,.int .i64 0,.int .i64 0,.int .i64 0,.string s]);have aI:Hid (m2+1<=maxLen):=J (by unfold maxLen;omega);have aH:Hid ((m2+1)*48<=140737488355328):=J (by omega);have aO:Hid (w0.heap.size<=(wr.alloc (.cells #[.int .i64 kk,.int .i64 0,.int .i64 0,.int .i64 0,.string s] 95)).heap.size):=J (by simp;omega);have cV:=J (fun w6 g6 c6 o hgr hat=>Lf (w':=w6) (g6:=g6) (c6:=c6) (o:=o) fT.o cr.o hgr hat);have q0:=aX.o.five;by_cases hle:m2+1<=200
   all_goals
    first
     |have jT:decide ((m2:Int)+1<=200)=true:=decide_eq_true (by omega)
     |have jT:decide ((m2:Int)+1<=200)=false:=decide_eq_false (by omega)
    go_wp2_with (at_builtin;go_must (refine wpList_append_lies _ rfl _ _ 32 rfl w0.heap.size 95 i0 _ 5 48 Tryz.underlying32 i1 aR hz1 aU rfl (by decide) (.slice A1 m2 c1) m2 (AN xs) rfl bp.o ⟨wr.heap.size,0,none⟩ 1 1 [.int .i64 kk,.int .i64 0,.int .i64 0,.int .i64 0,.string s] rfl rfl a9.o (by simp[Value.oneCell']) (by decide) aI.o aH.o aO.o _ rfl ?_;intro g6 c6 w6 aq aw aG bu;have cj:Hid (Ai w0.heap.size w6 (.slice (some ⟨g6,0,none⟩) (xs.length+1) c6) (xs++[⟨kk,0,0,0,t⟩])):=J (by unfold Ai;rw[Bl,Bw,nh.o,qab,qae,<-dh.o];exact aq);have eH:=J (cV.o w6 g6 c6 _ aw aG);clear aq aw aG bu;rw[<-dh.o]at eH cj));go_ret2
   ·have e:=dh.o;subst e;refine .inl ⟨by simp only[Ex.size];omega,_,rfl,?_,cH.o.trans eH.o.1⟩;have h:=cj.o;rw[Ag,hkk];exact h
   ·have e:=dh.o;subst e;exact .inr ⟨by simp only[Ex.size];omega,_,_,_,rfl,eH.o.2⟩
 |un k n x ih=>
  intro i w v xs be bX ai au ak;obtain⟨j,sP,hx⟩:=bX;have nM:=J (fun W v xs h h2 hl=>ih j W v xs be.2.2.2.2 sP h h2 hl);have hi:i<ns.length:=(qai.1 hx).1;have an:=hg.ok.2 i _ hx;have hfew:=hg.few;have aS:=J (fun W=>D4 W ⟨(k:Int),(j:Int),0,n,[]⟩ an);have mS:BA ⟨(k:Int),(j:Int),0,n,[]⟩=[j]:=CG (show Nv k n from ⟨be.1,be.2.1,be.2.2.1,be.2.2.2.1⟩);rw[mS]at aS;unfold Hm at aS;obtain⟨i0,i1,aR,hz1,aU⟩:=info_parts BI;obtain⟨j0,vv,vu,vt,vr⟩:=info_parts DJ;obtain⟨gb,o,hA,bC,hc⟩:∃gb o,(∃c,rv= .slice (some ⟨gb,o,none⟩) ns.length c)/\gb<w0.heap.size/\Hj w0 gb (o+i*5) ⟨(k:Int),(j:Int),0,n,[]⟩:=by
   obtain⟨A,c,rfl,h1⟩:=hg.row.read;obtain⟨gb,o,rfl,h2,h3⟩:=h1 (by omega);have h4:=h3 i hi;rw[(qai.1 hx).2]at h4;exact⟨gb,o,⟨c,rfl⟩,h2,h4⟩
  obtain⟨cg,eZ⟩:=hA;obtain⟨p0,p1,p2,p3,p4⟩:=hc;rw[<-ai.cell bC]at p0 p1 p2 p3 p4;obtain⟨k0,f0,ea⟩:=(hg.keep ai).blk.oneG;rw[eZ]at k0;have HX:=J ai;have HR:=J au;have cX:=ai.size;have dW:(0:Int)<=(i:Int):=by omega
  have hin:(i:Int)<(ns.length:Int):=by omega
  have jo:v.ownBlock≠some w.heap.size:=fun e=>by have:=Aj au e;omega
  obtain⟨A1,c1,rfl⟩:=au.shape;simp only[ndV]at aS;simp only at p0 p1 p2 p3 p4;generalize hkk:(k:Int)=kk at *;obtain⟨s,hs⟩:∃s:ByteArray,s=⟨([]:List UInt8).toArray⟩:=⟨_,rfl⟩;have nh:Hid (∀za zb:Int,ndC ⟨kk,za,zb,n,[]⟩=[.int .i64 kk,.int .i64 za,.int .i64 zb,.int .i64 n,.string s]):=J (fun za zb=>by rw[hs];rfl);have af:str []= .string s:=by rw[hs];rfl
  rw[af]at p4 aS;clear hs af an hx hi ai au;have b7:=J (Blk.new w 95 #[.int .i64 kk,.int .i64 (j:Int),.int .i64 0,.int .i64 n,.string s]);have ag:=J ((Ext.refl w).alloc (.cells #[.int .i64 kk,.int .i64 (j:Int),.int .i64 0,.int .i64 n,.string s] 95));obtain⟨nb,hnb⟩:∃nb,nb=w.heap.size:=⟨_,rfl⟩;obtain⟨w3,a5⟩:∃w3,w3=w.alloc (.cells #[.int .i64 kk,.int .i64 (j:Int),.int .i64 0,.int .i64 n,.string s] 95):=⟨_,rfl⟩;rw[<-a5,<-hnb]at b7;rw[<-a5]at ag;rw[<-hnb]at jo;go_enter Tryz.func113,Tryz.ntmps113;go_upto_region 2 with fail;rw[<-a5,<-hnb];have lG:Hid (nb=w.heap.size):=J hnb;clear a5 hnb p0 p1 p2 p3 p4 k0 f0;have q0:=b7.o.five;go_wp2_with fail;refine(aS.o w3).mono ?_
  rintro e w4 ⟨A3,c3,rfl,aJ,bO⟩;have aD:=J (HX.o.trans (ag.o.trans aJ));have cJ:=J (HR.o.ext (ag.o.trans aJ));have eG:=J (b7.o.ext aJ);have dl:Hid (KV (.slice A1 xs.length c1) (.slice A1 xs.length c1) w w4):=J (KV.of_ext (ag.o.trans aJ));have od:=ag.o.size;have vY:=aJ.size;clear q0 aS;have hz:([j]:List Nat).length=1:=rfl;rw[hz]at bO ⊢;clear hz;obtain⟨b3,rfl,lx,lu,aa⟩:=bO (by decide);clear bO;have y0:w4.cell? ⟨b3,0,none⟩=some (.int .i64 (j:Int)):=aa 0 (by decide);have pU:=b7.o.lt;have aC:Hid ((Value.slice A1 xs.length c1).ownBlock≠some b3/\b3≠nb):=J ⟨fun e=>by have:=Aj HR.o e;omega,by omega⟩;have bJ:Hid (w.heap.size<=nb/\w0.heap.size<=nb):=J (by have:=lG.o;omega);clear aa lx lu pU aJ;obtain⟨bW,eY⟩:∃bW,bW=xs++Ag xs.length x:=⟨_,rfl⟩;have hl1:bW.length=xs.length+x.size:=by rw[eY,qab,Ak]
  have qk:=x.size_pos;have iL:=J eY;have gR:=J hl1;obtain⟨kx,lk⟩:∃kx:Nat,kx+1=bW.length:=⟨bW.length-1,by omega⟩;have nL:=J lk;have jL:Hid ((kx:Int)=((xs.length+x.size-1:Nat):Int)):=J (by omega);clear eY lk hl1;have li:IntKind.i64.wrap ((0:Int)+1)=1:=by decide
  have sI:IntKind.i64.wrap ((1:Int)+1)=2:=by decide
  go_wp2_with fail;go_loopw [2,9,23] (fun s2 s9 s23 wr=>(s2=(.slice A1 xs.length c1)/\s9= .slice none 0 0/\s23= .int .i64 0/\Ai w0.heap.size wr (.slice A1 xs.length c1) xs/\Blk wr nb 95 #[.int .i64 kk,.int .i64 (j:Int),.int .i64 0,.int .i64 n,.string s]/\KV (.slice A1 xs.length c1) (.slice A1 xs.length c1) w wr/\Ext w0 wr/\wr.cell? ⟨b3,0,none⟩=some (.int .i64 (j:Int)))\/(s23= .int .i64 1/\∃ga ca,s9= .slice (some ⟨ga,0,none⟩) 1 ca/\Ai w0.heap.size wr s2 bW/\bW.length<=200/\Blk wr nb 95 #[.int .i64 kk,.int .i64 (j:Int),.int .i64 0,.int .i64 n,.string s]/\KV (.slice A1 xs.length c1) s2 w wr/\Ext w0 wr/\AZ w.heap.size wr (.slice (some ⟨ga,0,none⟩) 1 ca) 1 [kx]/\s2.ownBlock≠some nb/\s2.ownBlock≠some ga/\ga≠nb)) (fun _ _ s23 _=>1-(intOf s23).toNat)
  case atStart=>exact .inl ⟨rfl,rfl,rfl,cJ.o,eG.o,dl.o,aD.o,y0⟩
  case round=>
   clear cJ eG dl aD y0;rcases hrel with ⟨rfl,rfl,rfl,fQ,hnb,cd,j7,y0⟩|⟨rfl,ga,ca,rfl,fQ,hl1,hnb,cd,j7,hat,hv1,hv2,hv3⟩
   ·have cr:=J fQ;have aX:=J hnb;have cH:=J cd;have fT:=J j7;clear fQ hnb cd j7;go_wp2_with fail;refine(nM.o wr _ xs fT.o cr.o (by omega)).mono ?_
    rintro r w5 (⟨rE,v5,rfl,bA,bM⟩|⟨rE,A5,n5,c5,rfl,hx5⟩)
    ·rw[<-iL.o]at bA;have bH:=J bA;have b9:=J bM;have ba:=J (bM.ext fT.o cr.o);have dJ:Hid (Blk w5 nb 95 #[.int .i64 kk,.int .i64 (j:Int),.int .i64 0,.int .i64 n,.string s]):=J ((bM.block nb aX.o.lt jo).trans aX.o);have fq:v5.ownBlock≠some nb:=fun e=>by
      rcases bM.move nb e with h|h
      ·exact jo h
      ·have:=aX.o.lt;omega
     have mE:∀k,v5.ownBlock=some k->k<w5.heap.size:=fun k hk=>Aj bA hk
     have sZ:nb<w5.heap.size:=dJ.o.lt;have pO:Hid (AZ w.heap.size w5 (.slice none 0 0) 0 []):=J (AZ.nil _ _);obtain⟨A5,c5,rfl⟩:=bA.shape;have hlx:bW.length<=200:=by have h1:=gR.o;omega
     clear bA bM y0;have Xp:IntKind.i64.wrap ((bW.length:Int)-1)=(kx:Int):=by have h1:=nL.o;rw[IntWalk.i64_in _ (by omega)];omega
     have bp:Hid ((w5.alloc (.cells #[.int .i64 (kx:Int)] 3)).ownsRow w.heap.size 3 1 (.slice none 0 0) 0 (([]:List Nat).map din)):=J (Ac pO.o (fun k _ hk=>Below.heap_alloc _ _ k hk));have a9:=J (AS w5 3 [.int .i64 (kx:Int)]);have aI:Hid (0+1<=maxLen):=J (by unfold maxLen;omega);have aH:Hid ((0+1)*8<=140737488355328):=J (by omega);have aO:Hid (w.heap.size<=(w5.alloc (.cells #[.int .i64 (kx:Int)] 3)).heap.size):=J (by have:=cH.o.size;have:=b9.o.size;simp;omega);go_wp2_with (at_builtin;go_must (refine wpList_append_lies _ rfl _ _ 41 rfl w.heap.size 3 j0 _ 1 8 Tryz.underlying41 vv vu vt vr rfl (by decide) (.slice none 0 0) 0 (([]:List Nat).map din) rfl bp.o ⟨w5.heap.size,0,none⟩ 1 1 [.int .i64 (kx:Int)] rfl rfl a9.o (by simp[Value.oneCell']) (by decide) aI.o aH.o aO.o _ rfl ?_;intro g6 c6 w6 aq aw aG bu;have iV:Hid (Ext w5 w6/\g6=w5.heap.size+1/\AZ w.heap.size w6 (.slice (some ⟨g6,0,none⟩) 1 c6) 1 [kx]):=J ⟨⟨aw.os,aw.tape,aw.output,(by have:=aw.size;simp at this;omega),fun k hk=>(aw.block k (by simp;omega) (by simp[Value.ownBlock])).trans (Below.heap_alloc _ _ k hk)⟩,(by rcases aG with h|h;exact absurd h (by simp[Value.ownBlock]);simpa using h),aq⟩;clear aq aw aG bu));go_roundw
     case rel=>
      have e6:=iV.o.2.1;exact .inr ⟨by go_num,g6,c6,rfl,bH.o.ext iV.o.1,hlx,dJ.o.ext iV.o.1,(cH.o.trans b9.o).above (iV.o.1.mono (by have:=cH.o.size;have:=b9.o.size;omega)),ba.o.trans iV.o.1,iV.o.2.2,fq,fun e=>by have:=mE g6 e;omega,by omega⟩
     case measure=>simp[intOf]
    ·have rW:=J hx5;have jz:200<xs.length+(x.size+1):=by have h1:=gR.o;omega
     clear hx5 rE;go_wp2_with fail;go_ret2;exact .inr ⟨jz,_,_,_,rfl,rW.o⟩
   ·have cr:=J fQ;have aX:=J hnb;have cH:=J cd;have fT:=J j7;clear fQ hnb cd j7;obtain⟨A2,c2,rfl⟩:=cr.o.shape;have fH:=J hat;have t0:=fH.o.get 0 (by decide);have q0:=aX.o.five;have f1:=aX.o.frozen 1;have lH:=J (aX.o.set_ 1 (.int .i64 (kx:Int)));have wg:Ai w0.heap.size (wr.setCell ⟨nb,1,none⟩ (.int .i64 (kx:Int))) (.slice A2 bW.length c2) bW:=AD cr.o (fun k hk=>Below.heap_setCell _ _ _ k (fun e=>hv1 (by have e2:k=nb:=e;rw[<-e2];exact hk)));have iD:KV (.slice A1 xs.length c1) (.slice A2 bW.length c2) w (wr.setCell ⟨nb,1,none⟩ (.int .i64 (kx:Int))):=cH.o.above (Below.setCell (Below.refl _ wr) (p:=⟨nb,1,none⟩) bJ.o.1 _);have mD:Ext w0 (wr.setCell ⟨nb,1,none⟩ (.int .i64 (kx:Int))):=fT.o.setCell (p:=⟨nb,1,none⟩) bJ.o.2 _;have rA:Blk (wr.setCell ⟨nb,1,none⟩ (.int .i64 (kx:Int))) nb 95 #[.int .i64 kk,.int .i64 (kx:Int),.int .i64 0,.int .i64 n,.string s]:=lH.o;clear hat;go_upto_region 16 with fail;generalize hwz9:wr.setCell ⟨nb,1,none⟩ (.int .i64 (kx:Int))=wz at *;have pq:=J wg;have pF:=J iD;have pe:=J mD;have py:=J rA;clear wg iD mD rA cr cH fT aX lH hwz9 q0 f1 t0;have cr:=pq;have cH:=pF;have fT:=pe;have aX:=py;obtain⟨m2,cZ⟩:∃m2,m2=bW.length:=⟨_,rfl⟩;have dh:=J cZ;rw[<-cZ]at cr cH hl1 ⊢;clear cZ pq pF pe py;unfold LW;have sF:=fT.o.size;have bp:Hid ((wz.alloc (.cells #[.int .i64 kk,.int .i64 (kx:Int),.int .i64 0,.int .i64 n,.string s] 95)).ownsRow w0.heap.size 95 5 (.slice A2 m2 c2) m2 (AN bW)):=J (Ac (by have h:=cr.o;unfold Ai at h;rw[<-dh.o]at h;exact h) (fun k _ hk=>Below.heap_alloc _ _ k hk));have a9:=J (AS wz 95 [.int .i64 kk,.int .i64 (kx:Int),.int .i64 0,.int .i64 n,.string s]);have aI:Hid (m2+1<=maxLen):=J (by unfold maxLen;omega);have aH:Hid ((m2+1)*48<=140737488355328):=J (by omega);have aO:Hid (w0.heap.size<=(wz.alloc (.cells #[.int .i64 kk,.int .i64 (kx:Int),.int .i64 0,.int .i64 n,.string s] 95)).heap.size):=J (by simp;omega);have cV:=J (fun w6 g6 c6 o hgr hat=>Lf (w':=w6) (g6:=g6) (c6:=c6) (o:=o) fT.o cr.o hgr hat);have q0:=aX.o.five;by_cases hle:m2+1<=200
    all_goals
     first
      |have jT:decide ((m2:Int)+1<=200)=true:=decide_eq_true (by omega)
      |have jT:decide ((m2:Int)+1<=200)=false:=decide_eq_false (by omega)
     go_wp2_with (at_builtin;go_must (refine wpList_append_lies _ rfl _ _ 32 rfl w0.heap.size 95 i0 _ 5 48 Tryz.underlying32 i1 aR hz1 aU rfl (by decide) (.slice A2 m2 c2) m2 (AN bW) rfl bp.o ⟨wz.heap.size,0,none⟩ 1 1 [.int .i64 kk,.int .i64 (kx:Int),.int .i64 0,.int .i64 n,.string s] rfl rfl a9.o (by simp[Value.oneCell']) (by decide) aI.o aH.o aO.o _ rfl ?_;intro g6 c6 w6 aq aw aG bu;have cj:Hid (Ai w0.heap.size w6 (.slice (some ⟨g6,0,none⟩) (bW.length+1) c6) (bW++[⟨kk,(kx:Int),0,n,[]⟩])):=J (by unfold Ai;rw[Bl,Bw,nh.o,qab,qae,<-dh.o];exact aq);have eH:=J (cV.o w6 g6 c6 _ aw aG);clear aq aw aG bu;rw[<-dh.o]at eH cj));go_ret2
    ·have e:=dh.o;subst e;refine .inl ⟨by have h1:=gR.o;simp only[Ex.size];omega,_,rfl,?_,cH.o.trans eH.o.1⟩;have h:=cj.o;rw[Ag,hkk,<-qan,<-iL.o,<-jL.o];exact h
    ·have e:=dh.o;subst e;exact .inr ⟨by have h1:=gR.o;simp only[Ex.size];omega,_,_,_,rfl,eH.o.2⟩
 |bin k x y ihx ihy=>
  intro i w v xs be bX ai au ak;obtain⟨j,q,sP,ru,hx⟩:=bX;have WX:=J (fun W v xs h h2 hl=>ihx j W v xs be.2.1 sP h h2 hl);have WW:=J (fun W v xs h h2 hl=>ihy q W v xs be.2.2 ru h h2 hl);have hi:i<ns.length:=(qai.1 hx).1;have an:=hg.ok.2 i _ hx;have hfew:=hg.few;have aS:=J (fun W=>D4 W ⟨(k:Int),(j:Int),(q:Int),0,[]⟩ an);have mS:BA ⟨(k:Int),(j:Int),(q:Int),0,[]⟩=[j,q]:=B0 be.1;rw[mS]at aS;unfold Hm at aS;obtain⟨i0,i1,aR,hz1,aU⟩:=info_parts BI;obtain⟨j0,vv,vu,vt,vr⟩:=info_parts DJ;obtain⟨gb,o,hA,bC,hc⟩:∃gb o,(∃c,rv= .slice (some ⟨gb,o,none⟩) ns.length c)/\gb<w0.heap.size/\Hj w0 gb (o+i*5) ⟨(k:Int),(j:Int),(q:Int),0,[]⟩:=by
   obtain⟨A,c,rfl,h1⟩:=hg.row.read;obtain⟨gb,o,rfl,h2,h3⟩:=h1 (by omega);have h4:=h3 i hi;rw[(qai.1 hx).2]at h4;exact⟨gb,o,⟨c,rfl⟩,h2,h4⟩
  obtain⟨cg,eZ⟩:=hA;obtain⟨p0,p1,p2,p3,p4⟩:=hc;rw[<-ai.cell bC]at p0 p1 p2 p3 p4;obtain⟨k0,f0,ea⟩:=(hg.keep ai).blk.oneG;rw[eZ]at k0;have HX:=J ai;have HR:=J au;have cX:=ai.size;have dW:(0:Int)<=(i:Int):=by omega
  have hin:(i:Int)<(ns.length:Int):=by omega
  have jo:v.ownBlock≠some w.heap.size:=fun e=>by have:=Aj au e;omega
  obtain⟨A1,c1,rfl⟩:=au.shape;simp only[ndV]at aS;simp only at p0 p1 p2 p3 p4;generalize hkk:(k:Int)=kk at *;obtain⟨s,hs⟩:∃s:ByteArray,s=⟨([]:List UInt8).toArray⟩:=⟨_,rfl⟩;have nh:Hid (∀za zb:Int,ndC ⟨kk,za,zb,0,[]⟩=[.int .i64 kk,.int .i64 za,.int .i64 zb,.int .i64 0,.string s]):=J (fun za zb=>by rw[hs];rfl);have af:str []= .string s:=by rw[hs];rfl
  rw[af]at p4 aS;clear hs af an hx hi ai au;have b7:=J (Blk.new w 95 #[.int .i64 kk,.int .i64 (j:Int),.int .i64 (q:Int),.int .i64 0,.string s]);have ag:=J ((Ext.refl w).alloc (.cells #[.int .i64 kk,.int .i64 (j:Int),.int .i64 (q:Int),.int .i64 0,.string s] 95));obtain⟨nb,hnb⟩:∃nb,nb=w.heap.size:=⟨_,rfl⟩;obtain⟨w3,a5⟩:∃w3,w3=w.alloc (.cells #[.int .i64 kk,.int .i64 (j:Int),.int .i64 (q:Int),.int .i64 0,.string s] 95):=⟨_,rfl⟩;rw[<-a5,<-hnb]at b7;rw[<-a5]at ag;rw[<-hnb]at jo;go_enter Tryz.func113,Tryz.ntmps113;go_upto_region 2 with fail;rw[<-a5,<-hnb];have lG:Hid (nb=w.heap.size):=J hnb;clear a5 hnb p0 p1 p2 p3 p4 k0 f0;have q0:=b7.o.five;go_wp2_with fail;refine(aS.o w3).mono ?_
  rintro e w4 ⟨A3,c3,rfl,aJ,bO⟩;have aD:=J (HX.o.trans (ag.o.trans aJ));have cJ:=J (HR.o.ext (ag.o.trans aJ));have eG:=J (b7.o.ext aJ);have dl:Hid (KV (.slice A1 xs.length c1) (.slice A1 xs.length c1) w w4):=J (KV.of_ext (ag.o.trans aJ));have od:=ag.o.size;have vY:=aJ.size;clear q0 aS;have hz:([j,q]:List Nat).length=2:=rfl;rw[hz]at bO ⊢;clear hz;obtain⟨b3,rfl,lx,lu,aa⟩:=bO (by decide);clear bO;have y0:w4.cell? ⟨b3,0,none⟩=some (.int .i64 (j:Int)):=aa 0 (by decide);have y1:w4.cell? ⟨b3,1,none⟩=some (.int .i64 (q:Int)):=aa 1 (by decide);have pU:=b7.o.lt;have aC:Hid ((Value.slice A1 xs.length c1).ownBlock≠some b3/\b3≠nb):=J ⟨fun e=>by have:=Aj HR.o e;omega,by omega⟩;have bJ:Hid (w.heap.size<=nb/\w0.heap.size<=nb):=J (by have:=lG.o;omega);clear aa lx lu pU aJ;obtain⟨bW,eY⟩:∃bW,bW=xs++Ag xs.length x:=⟨_,rfl⟩;have hl1:bW.length=xs.length+x.size:=by rw[eY,qab,Ak]
  have qk:=x.size_pos;have iL:=J eY;have gR:=J hl1;obtain⟨kx,lk⟩:∃kx:Nat,kx+1=bW.length:=⟨bW.length-1,by omega⟩;have nL:=J lk;have jL:Hid ((kx:Int)=((xs.length+x.size-1:Nat):Int)):=J (by omega);clear eY lk hl1;obtain⟨eX,lf⟩:∃eX,eX=bW++Ag bW.length y:=⟨_,rfl⟩;have hl2:eX.length=bW.length+y.size:=by rw[lf,qab,Ak]
  have hyp:=y.size_pos;have pd:=J lf;have dR:=J hl2;obtain⟨ky,XV⟩:∃ky:Nat,ky+1=eX.length:=⟨eX.length-1,by omega⟩;have HKY:=J XV;have q7:Hid ((ky:Int)=((bW.length+y.size-1:Nat):Int)):=J (by omega);clear lf XV hl2;have li:IntKind.i64.wrap ((0:Int)+1)=1:=by decide
  have sI:IntKind.i64.wrap ((1:Int)+1)=2:=by decide
  go_wp2_with fail;go_loopw [2,9,23] (fun s2 s9 s23 wr=>(s2=(.slice A1 xs.length c1)/\s9= .slice none 0 0/\s23= .int .i64 0/\Ai w0.heap.size wr (.slice A1 xs.length c1) xs/\Blk wr nb 95 #[.int .i64 kk,.int .i64 (j:Int),.int .i64 (q:Int),.int .i64 0,.string s]/\KV (.slice A1 xs.length c1) (.slice A1 xs.length c1) w wr/\Ext w0 wr/\wr.cell? ⟨b3,0,none⟩=some (.int .i64 (j:Int))/\wr.cell? ⟨b3,1,none⟩=some (.int .i64 (q:Int)))\/(s23= .int .i64 1/\∃ga ca,s9= .slice (some ⟨ga,0,none⟩) 1 ca/\Ai w0.heap.size wr s2 bW/\bW.length<=200/\Blk wr nb 95 #[.int .i64 kk,.int .i64 (j:Int),.int .i64 (q:Int),.int .i64 0,.string s]/\KV (.slice A1 xs.length c1) s2 w wr/\Ext w0 wr/\AZ w.heap.size wr (.slice (some ⟨ga,0,none⟩) 1 ca) 1 [kx]/\s2.ownBlock≠some nb/\s2.ownBlock≠some ga/\ga≠nb/\wr.cell? ⟨b3,1,none⟩=some (.int .i64 (q:Int)))\/(s23= .int .i64 2/\∃ga ca,s9= .slice (some ⟨ga,0,none⟩) 2 ca/\Ai w0.heap.size wr s2 eX/\eX.length<=200/\Blk wr nb 95 #[.int .i64 kk,.int .i64 (j:Int),.int .i64 (q:Int),.int .i64 0,.string s]/\KV (.slice A1 xs.length c1) s2 w wr/\Ext w0 wr/\AZ w.heap.size wr (.slice (some ⟨ga,0,none⟩) 2 ca) 2 [kx,ky]/\s2.ownBlock≠some nb/\s2.ownBlock≠some ga/\ga≠nb)) (fun _ _ s23 _=>2-(intOf s23).toNat)
  case atStart=>exact .inl ⟨rfl,rfl,rfl,cJ.o,eG.o,dl.o,aD.o,y0,y1⟩
  case round=>
   clear cJ eG dl aD y0 y1;rcases hrel with ⟨rfl,rfl,rfl,fQ,hnb,cd,j7,y0,y1⟩|⟨rfl,ga,ca,rfl,fQ,hl1,hnb,cd,j7,hat,hv1,hv2,hv3,y1⟩|⟨rfl,ga,ca,rfl,fQ,hl1,hnb,cd,j7,hat,hv1,hv2,hv3⟩
   ·have cr:=J fQ;have aX:=J hnb;have cH:=J cd;have fT:=J j7;clear fQ hnb cd j7;go_wp2_with fail;refine(WX.o wr _ xs fT.o cr.o (by omega)).mono ?_
    rintro r w5 (⟨rE,v5,rfl,bA,bM⟩|⟨rE,A5,n5,c5,rfl,hx5⟩)
    ·rw[<-iL.o]at bA;have bH:=J bA;have b9:=J bM;have ba:=J (bM.ext fT.o cr.o);have dJ:Hid (Blk w5 nb 95 #[.int .i64 kk,.int .i64 (j:Int),.int .i64 (q:Int),.int .i64 0,.string s]):=J ((bM.block nb aX.o.lt jo).trans aX.o);have fq:v5.ownBlock≠some nb:=fun e=>by
      rcases bM.move nb e with h|h
      ·exact jo h
      ·have:=aX.o.lt;omega
     have mE:∀k,v5.ownBlock=some k->k<w5.heap.size:=fun k hk=>Aj bA hk
     have sZ:nb<w5.heap.size:=dJ.o.lt;have pO:Hid (AZ w.heap.size w5 (.slice none 0 0) 0 []):=J (AZ.nil _ _);have Wn:Hid (w5.cell? ⟨b3,1,none⟩=some (.int .i64 (q:Int))):=J ((World.cell?_of_block (a:=⟨b3,1,none⟩) (bM.block b3 (World.block_lt_of_cell? wr _ y1) aC.o.1)).trans y1);obtain⟨A5,c5,rfl⟩:=bA.shape;have hlx:bW.length<=200:=by have h1:=gR.o;omega
     clear bA bM y0 y1;have Xp:IntKind.i64.wrap ((bW.length:Int)-1)=(kx:Int):=by have h1:=nL.o;rw[IntWalk.i64_in _ (by omega)];omega
     have bp:Hid ((w5.alloc (.cells #[.int .i64 (kx:Int)] 3)).ownsRow w.heap.size 3 1 (.slice none 0 0) 0 (([]:List Nat).map din)):=J (Ac pO.o (fun k _ hk=>Below.heap_alloc _ _ k hk));have a9:=J (AS w5 3 [.int .i64 (kx:Int)]);have aI:Hid (0+1<=maxLen):=J (by unfold maxLen;omega);have aH:Hid ((0+1)*8<=140737488355328):=J (by omega);have aO:Hid (w.heap.size<=(w5.alloc (.cells #[.int .i64 (kx:Int)] 3)).heap.size):=J (by have:=cH.o.size;have:=b9.o.size;simp;omega);go_wp2_with (at_builtin;go_must (refine wpList_append_lies _ rfl _ _ 41 rfl w.heap.size 3 j0 _ 1 8 Tryz.underlying41 vv vu vt vr rfl (by decide) (.slice none 0 0) 0 (([]:List Nat).map din) rfl bp.o ⟨w5.heap.size,0,none⟩ 1 1 [.int .i64 (kx:Int)] rfl rfl a9.o (by simp[Value.oneCell']) (by decide) aI.o aH.o aO.o _ rfl ?_;intro g6 c6 w6 aq aw aG bu;have iV:Hid (Ext w5 w6/\g6=w5.heap.size+1/\AZ w.heap.size w6 (.slice (some ⟨g6,0,none⟩) 1 c6) 1 [kx]):=J ⟨⟨aw.os,aw.tape,aw.output,(by have:=aw.size;simp at this;omega),fun k hk=>(aw.block k (by simp;omega) (by simp[Value.ownBlock])).trans (Below.heap_alloc _ _ k hk)⟩,(by rcases aG with h|h;exact absurd h (by simp[Value.ownBlock]);simpa using h),aq⟩;clear aq aw aG bu));go_roundw
     case rel=>
      have e6:=iV.o.2.1;exact .inr (.inl ⟨by go_num,g6,c6,rfl,bH.o.ext iV.o.1,hlx,dJ.o.ext iV.o.1,(cH.o.trans b9.o).above (iV.o.1.mono (by have:=cH.o.size;have:=b9.o.size;omega)),ba.o.trans iV.o.1,iV.o.2.2,fq,fun e=>by have:=mE g6 e;omega,by omega,iV.o.1.keep Wn.o⟩)
     case measure=>simp[intOf]
    ·have rW:=J hx5;have jz:200<xs.length+(x.size+y.size+1):=by have h1:=gR.o;omega
     clear hx5 rE;go_wp2_with fail;go_ret2;exact .inr ⟨jz,_,_,_,rfl,rW.o⟩
   ·have cr:=J fQ;have aX:=J hnb;have cH:=J cd;have fT:=J j7;clear fQ hnb cd j7;obtain⟨A2,c2,rfl⟩:=cr.o.shape;have fH:=J hat;clear hat;go_wp2_with fail;refine(WW.o wr _ bW fT.o cr.o (by omega)).mono ?_
    rintro r w5 (⟨rE,v5,rfl,bA,bM⟩|⟨rE,A5,n5,c5,rfl,hx5⟩)
    ·rw[<-pd.o]at bA;have bH:=J bA;have b9:=J bM;have ba:=J (bM.ext fT.o cr.o);have dJ:Hid (Blk w5 nb 95 #[.int .i64 kk,.int .i64 (j:Int),.int .i64 (q:Int),.int .i64 0,.string s]):=J ((bM.block nb aX.o.lt hv1).trans aX.o);have fq:v5.ownBlock≠some nb:=fun e=>by
      rcases bM.move nb e with h|h
      ·exact hv1 h
      ·have:=aX.o.lt;omega
     have mE:∀k,v5.ownBlock=some k->k<w5.heap.size:=fun k hk=>Aj bA hk
     have sZ:nb<w5.heap.size:=dJ.o.lt;have X5:=(fH.o.blt ga rfl).2;have pO:Hid (AZ w.heap.size w5 (.slice (some ⟨ga,0,none⟩) 1 ca) 1 [kx]):=J (fH.o.atG (fun k hk=>bM.block k (by have h9:ga=k:=qaA hk;omega) (fun e=>hv2 (by have h9:ga=k:=qaA hk;rw[h9];exact e))));have vM:v5.ownBlock≠some ga:=fun e=>by
      rcases bM.move ga e with h|h
      ·exact hv2 h
      ·omega
     have hga0:=(fH.o.blt ga rfl).1;obtain⟨A5,c5,rfl⟩:=bA.shape;have hlx:eX.length<=200:=by have h1:=gR.o;have h2:=dR.o;omega
     clear bA bM y1;have Xp:IntKind.i64.wrap ((eX.length:Int)-1)=(ky:Int):=by have h1:=HKY.o;rw[IntWalk.i64_in _ (by omega)];omega
     have bp:Hid ((w5.alloc (.cells #[.int .i64 (ky:Int)] 3)).ownsRow w.heap.size 3 1 (.slice (some ⟨ga,0,none⟩) 1 ca) 1 ([kx].map din)):=J (Ac pO.o (fun k _ hk=>Below.heap_alloc _ _ k hk));have a9:=J (AS w5 3 [.int .i64 (ky:Int)]);have aI:Hid (1+1<=maxLen):=J (by unfold maxLen;omega);have aH:Hid ((1+1)*8<=140737488355328):=J (by omega);have aO:Hid (w.heap.size<=(w5.alloc (.cells #[.int .i64 (ky:Int)] 3)).heap.size):=J (by have:=cH.o.size;have:=b9.o.size;simp;omega);go_wp2_with (at_builtin;go_must (refine wpList_append_lies _ rfl _ _ 41 rfl w.heap.size 3 j0 _ 1 8 Tryz.underlying41 vv vu vt vr rfl (by decide) (.slice (some ⟨ga,0,none⟩) 1 ca) 1 ([kx].map din) rfl bp.o ⟨w5.heap.size,0,none⟩ 1 1 [.int .i64 (ky:Int)] rfl rfl a9.o (by simp[Value.oneCell']) (by decide) aI.o aH.o aO.o _ rfl ?_;intro g6 c6 w6 aq aw aG bu;have iV:Hid ((∀k,k<w5.heap.size->k≠ga->w6.heap[k]? =w5.heap[k]?)/\Below w.heap.size w5 w6/\(g6=ga\/g6=w5.heap.size+1)/\AZ w.heap.size w6 (.slice (some ⟨g6,0,none⟩) 2 c6) 2 [kx,ky]):=J ⟨fun k hk hne=>(aw.block k (by simp;omega) (fun e=>hne (qaA e))).trans (Below.heap_alloc _ _ k hk),Below.grown ((Below.refl _ w5).alloc (by have:=cH.o.size;have:=b9.o.size;omega) _) aw (by have:=cH.o.size;have:=b9.o.size;simp;omega) (fun k hk=>by have h9:ga=k:=qaA hk;omega),(by rcases aG with h|h;exact .inl (qaA h).symm;exact .inr (by simpa using h)),aq⟩;clear aq aw aG bu));go_roundw
     case rel=>
      refine .inr (.inr ⟨by go_num,g6,c6,rfl,?_,hlx,?_,(cH.o.trans b9.o).above iV.o.2.1,?_,iV.o.2.2.2,fq,?_,?_⟩)
      ·exact AD bH.o (fun k hk=>iV.o.1 k (mE k hk) (fun e=>vM (by rw[<-e];exact hk)))
      ·exact(iV.o.1 nb sZ (fun e=>hv3 e.symm)).trans dJ.o
      ·exact ba.o.more (Below.mono iV.o.2.1 cX)
      ·intro e;rcases iV.o.2.2.1 with h|h
       ·exact vM (by rw[<-h];exact e)
       ·have:=mE g6 e;omega
      ·rcases iV.o.2.2.1 with h|h
       ·rw[h];exact hv3
       ·omega
     case measure=>simp[intOf]
    ·have rW:=J hx5;have jz:200<xs.length+(x.size+y.size+1):=by have h1:=gR.o;omega
     clear hx5 rE;go_wp2_with fail;go_ret2;exact .inr ⟨jz,_,_,_,rfl,rW.o⟩
   ·have cr:=J fQ;have aX:=J hnb;have cH:=J cd;have fT:=J j7;clear fQ hnb cd j7;obtain⟨A2,c2,rfl⟩:=cr.o.shape;have fH:=J hat;have t0:=fH.o.get 0 (by decide);have t1:=fH.o.get 1 (by decide);have Za:=(World.cell?_of_block (a:=⟨ga,1,none⟩) (Below.heap_setCell wr ⟨nb,1,none⟩ (.int .i64 (kx:Int)) ga hv3)).trans t1;have q0:=aX.o.five;have f1:=aX.o.frozen 1;have lH:=J (aX.o.set_ 1 (.int .i64 (kx:Int)));have f2:=lH.o.frozen 2;have r0:=Blk.five lH.o;have yx:=J (Blk.set_ lH.o 2 (.int .i64 (ky:Int)));have wg:Ai w0.heap.size ((wr.setCell ⟨nb,1,none⟩ (.int .i64 (kx:Int))).setCell ⟨nb,2,none⟩ (.int .i64 (ky:Int))) (.slice A2 eX.length c2) eX:=AD cr.o (fun k hk=>(Below.heap_setCell _ _ _ k (fun e=>hv1 (by have e2:k=nb:=e;rw[<-e2];exact hk))).trans (Below.heap_setCell _ _ _ k (fun e=>hv1 (by have e2:k=nb:=e;rw[<-e2];exact hk))));have iD:KV (.slice A1 xs.length c1) (.slice A2 eX.length c2) w ((wr.setCell ⟨nb,1,none⟩ (.int .i64 (kx:Int))).setCell ⟨nb,2,none⟩ (.int .i64 (ky:Int))):=cH.o.above (Below.setCell (Below.setCell (Below.refl _ wr) (p:=⟨nb,1,none⟩) bJ.o.1 _) (p:=⟨nb,2,none⟩) bJ.o.1 _);have mD:Ext w0 ((wr.setCell ⟨nb,1,none⟩ (.int .i64 (kx:Int))).setCell ⟨nb,2,none⟩ (.int .i64 (ky:Int))):=(fT.o.setCell (p:=⟨nb,1,none⟩) bJ.o.2 _).setCell (p:=⟨nb,2,none⟩) bJ.o.2 _;have rA:Blk ((wr.setCell ⟨nb,1,none⟩ (.int .i64 (kx:Int))).setCell ⟨nb,2,none⟩ (.int .i64 (ky:Int))) nb 95 #[.int .i64 kk,.int .i64 (kx:Int),.int .i64 (ky:Int),.int .i64 0,.string s]:=yx.o;clear hat;go_upto_region 16 with fail;generalize hwz9:(wr.setCell ⟨nb,1,none⟩ (.int .i64 (kx:Int))).setCell ⟨nb,2,none⟩ (.int .i64 (ky:Int))=wz at *;have pq:=J wg;have pF:=J iD;have pe:=J mD;have py:=J rA;clear wg iD mD rA cr cH fT aX lH hwz9 q0 f1 t0 t1 Za f2 r0 yx;have cr:=pq;have cH:=pF;have fT:=pe;have aX:=py;obtain⟨m2,cZ⟩:∃m2,m2=eX.length:=⟨_,rfl⟩;have dh:=J cZ;rw[<-cZ]at cr cH hl1 ⊢;clear cZ pq pF pe py;unfold LW;have sF:=fT.o.size;have bp:Hid ((wz.alloc (.cells #[.int .i64 kk,.int .i64 (kx:Int),.int .i64 (ky:Int),.int .i64 0,.string s] 95)).ownsRow w0.heap.size 95 5 (.slice A2 m2 c2) m2 (AN eX)):=J (Ac (by have h:=cr.o;unfold Ai at h;rw[<-dh.o]at h;exact h) (fun k _ hk=>Below.heap_alloc _ _ k hk));have a9:=J (AS wz 95 [.int .i64 kk,.int .i64 (kx:Int),.int .i64 (ky:Int),.int .i64 0,.string s]);have aI:Hid (m2+1<=maxLen):=J (by unfold maxLen;omega);have aH:Hid ((m2+1)*48<=140737488355328):=J (by omega);have aO:Hid (w0.heap.size<=(wz.alloc (.cells #[.int .i64 kk,.int .i64 (kx:Int),.int .i64 (ky:Int),.int .i64 0,.string s] 95)).heap.size):=J (by simp;omega);have cV:=J (fun w6 g6 c6 o hgr hat=>Lf (w':=w6) (g6:=g6) (c6:=c6) (o:=o) fT.o cr.o hgr hat);have q0:=aX.o.five;by_cases hle:m2+1<=200
    all_goals
     first
      |have jT:decide ((m2:Int)+1<=200)=true:=decide_eq_true (by omega)
      |have jT:decide ((m2:Int)+1<=200)=false:=decide_eq_false (by omega)
     go_wp2_with (at_builtin;go_must (refine wpList_append_lies _ rfl _ _ 32 rfl w0.heap.size 95 i0 _ 5 48 Tryz.underlying32 i1 aR hz1 aU rfl (by decide) (.slice A2 m2 c2) m2 (AN eX) rfl bp.o ⟨wz.heap.size,0,none⟩ 1 1 [.int .i64 kk,.int .i64 (kx:Int),.int .i64 (ky:Int),.int .i64 0,.string s] rfl rfl a9.o (by simp[Value.oneCell']) (by decide) aI.o aH.o aO.o _ rfl ?_;intro g6 c6 w6 aq aw aG bu;have cj:Hid (Ai w0.heap.size w6 (.slice (some ⟨g6,0,none⟩) (eX.length+1) c6) (eX++[⟨kk,(kx:Int),(ky:Int),0,[]⟩])):=J (by unfold Ai;rw[Bl,Bw,nh.o,qab,qae,<-dh.o];exact aq);have eH:=J (cV.o w6 g6 c6 _ aw aG);clear aq aw aG bu;rw[<-dh.o]at eH cj));go_ret2
    ·have e:=dh.o;subst e;refine .inl ⟨by have h1:=gR.o;have h2:=dR.o;simp only[Ex.size];omega,_,rfl,?_,cH.o.trans eH.o.1⟩;have h:=cj.o;rw[Ag,hkk,<-jL.o,<-gR.o,<-qan,<-iL.o,<-qan,<-pd.o,<-q7.o];exact h
    ·have e:=dh.o;subst e;exact .inr ⟨by have h1:=gR.o;have h2:=dR.o;simp only[Ex.size];omega,_,_,_,rfl,eH.o.2⟩
theorem QS(B g b:Nat)(w:World)(ns:List Nd)(nv:Value)(h:GrP B g b w ns nv)(i:Int):
  Calls Tryz.prog 55 #[.pointer (some ⟨g,0,none⟩),.int .i64 i] w (J9 ns i w):=by
 by_cases hi:0<=i/\i<(ns.length:Int)
 ·obtain⟨k,rfl⟩:∃k:Nat,(k:Int)=i:=⟨i.toNat,by omega⟩;exact Sz B g b w ns nv h k (by omega)
 have HO:=J (C4.o (ns:=ns) (i:=i) (by omega));have aA:=J (Blk.new w 50 #[.pointer (some ⟨g,0,none⟩)]);have ah:=J ((Ext.refl w).alloc (.cells #[.pointer (some ⟨g,0,none⟩)] 50));obtain⟨bg,jA⟩:∃bg,bg=w.heap.size:=⟨_,rfl⟩;obtain⟨w1,aB⟩:∃w1,w1=w.alloc (.cells #[.pointer (some ⟨g,0,none⟩)] 50):=⟨_,rfl⟩;rw[<-aB,<-jA]at aA;rw[<-aB]at ah;have k0:=(h.keep ah.o).blk.twoG;obtain⟨A,c,rfl⟩:=h.row.shape;have g0:=aA.o.oneG;clear h;by_cases h0:i<0
 ·have hd:decide (i<0)=true:=decide_eq_true h0;clear hi;go_enter Tryz.func55,Tryz.ntmps55;go_upto_region 1 with fail;rw[<-aB,<-jA];clear aB jA;go_wp2_with fail;go_ret2;exact⟨_,[],1,rfl,RNd.nilG _,HO.o,by decide,ah.o⟩
 ·have hd:decide (i<0)=false:=decide_eq_false h0;have h1:(ns.length:Int)<=i:=by omega
  have bE:decide (i>=(ns.length:Int))=true:=decide_eq_true h1;have oR:decide ((ns.length:Int)<=i)=true:=decide_eq_true h1;clear hi;go_enter Tryz.func55,Tryz.ntmps55;go_upto_region 1 with fail;rw[<-aB,<-jA];clear aB jA;go_wp2_with fail;go_ret2;exact⟨_,[],1,rfl,RNd.nilG _,HO.o,by decide,ah.o⟩
end Big
end Go.Proofs.YtkoaogkknnelaaaGreatDoor
