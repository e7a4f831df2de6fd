import Derived.Test.YtkoaogkknnelaaaGreatDoorM39
set_option linter.unusedVariables false
set_option linter.unusedSimpArgs false
set_option maxHeartbeats 16000000
set_option maxRecDepth 100000
namespace Go.Proofs.YtkoaogkknnelaaaGreatDoor
namespace Big
open Lib renaming hid → J
open Go.RowKit
theorem Tb(w:World)(i:Int):Calls Tryz.prog 83 #[.int .i64 i] w fun e w'=>e= .returned (.bool true)/\Ext w w':=by
 go_enter Tryz.func83,Tryz.ntmps83;go_wp2_with fail;go_ret;exact⟨rfl,Ext.refl w⟩
theorem Nl(B g b:Nat)(w:World)(ns:List Nd)(nv:Value)(h:GrP B g b w ns nv)(hm:B5 w):Calls Tryz.prog 28 #[.pointer (some ⟨g,0,none⟩)] w (Fi ns w):=by
 have dl:=J (Gl B g b w ns nv h);have HM:=J hm;have HS:=J h.ok;have dz:=h.few;obtain⟨n,dZ⟩:∃n,n=ns.length:=⟨_,rfl⟩;rw[<-dZ]at dz;have HN:=J dZ;clear h hm dZ;unfold Fi;go_enter Tryz.func28,Tryz.ntmps28;go_wp2_with fail;refine dl.o.mono ?_
 rintro e w2 ⟨v2,rfl,ho,hx⟩;have aR:=J hx;have kq:=J (U7 w2 _ ns ho.read HS.o (by rw[<-HN.o];exact dz) (HM.o.ext hx) (fun _=>true) (fun W _ i _=>Tb W _));unfold F0 at kq;rw[Rh]at kq;obtain⟨A2,c2,rfl⟩:=ho.shape;rw[<-HN.o]at kq ⊢;clear ho hx dl;go_wp2_with fail;refine kq.o.mono ?_
 rintro e wa ⟨br,rfl,bc,hx⟩;have gf:=J bc;have bq:=J (aR.o.trans hx);clear bc hx kq;go_wp2_with fail;go_loopw [12,4,5] (fun rG s4 s5 wr=>∃k:Nat,k<=n/\rG= .int .i64 (k:Int)/\Bp wa.heap.size wr s4 (BB (ns.take k))/\Bx wa.heap.size wr s5 (BB (ns.take k))/\Ext wa wr) (fun rG _ _ _=>n-(intOf rG).toNat)
 case atStart=>exact⟨0,qaj _,rfl,by rw[qbw];exact Bp.nil _ _,by rw[qbw];exact Bx.nil _ _,Ext.refl _⟩
 case round=>
  obtain⟨k,hk,rfl,jH,iB,hx⟩:=hrel;obtain⟨AL,cL,rfl⟩:=jH.shape;obtain⟨AM,cM,rfl⟩:=iB.shape;have nx:(BB (ns.take k)).length=k:=by rw[CZ,qam];have:=HN.o;omega
  rw[nx]at jH iB ⊢;by_cases hlt:k<n
  ·have i4:k<ns.length:=by rw[<-HN.o];exact hlt
   have XR:BB (ns.take (k+1))=BB (ns.take k)++[(BB ns).getD k X2.O]:=by
    rw[<-D3 (ns:=ns) (i:=k+1) (by omega) k (by omega),qaz i4,Hr];unfold Fq;rw[Gn _ _ (by rw[CZ,qam];omega)]
   have kh:=J XR;have me:(BB ns)[k]? =some ((BB ns).getD k X2.O):=by
    rw[qaa,qad (by rw[CZ];omega)];rfl
   have YW:=J (IX ns _ (qbf me));obtain⟨_,_,_,fK⟩:=gf.o.ext hx;obtain⟨⟨A5,n5,k5,A6,n6,k6,p0,p1,p2,hr⟩,p3⟩:=fK k _ me;have hbr:br<wr.heap.size:=World.block_lt_of_cell? wr _ p0;generalize (BB ns).getD k X2.O=X at *;obtain⟨L2,hl2⟩:∃L2,L2=BB (ns.take (k+1)):=⟨_,rfl⟩;rw[<-hl2]at kh;have ib:=J hl2;clear hl2;generalize BB (ns.take k)=L at *;obtain⟨yf,p5⟩:∃yf,decide (X.p<0)=yf:=⟨_,rfl⟩;rw[p5]at p0 hr;obtain⟨st,hst⟩:∃st:Int,(X.st:Int)=st:=⟨_,rfl⟩;rw[hst]at p3;have bF:=J hst;have R8:=J hr;obtain⟨jU,iG,kB⟩:=jH;rw[nx]at iG;have ny:=iB;unfold Bx at ny;rw[nx]at ny;have hT:TR wa wr wr (.slice AL k cL) (.slice AM k cM) k k jU (L.map fun x=>Value.int .i64 (x.st:Int)):=⟨hx,KU.refl _,iG,ny⟩;have pm:=J kB;have lm:=J nx;have mm:(0:Int)<=(k:Int):=by omega
   have qY:(k:Int)<(n:Int):=by omega
   have vg:IntKind.i64.wrap ((k:Int)+1)=(k:Int)+1:=IntWalk.i64_in _ (by omega);obtain⟨i0,hi,aD,hz1,bu⟩:=info_parts JS;obtain⟨j0,hj,dE,aT,bQ⟩:=info_parts JU;have ef:=J (And.intro hi (And.intro aD (And.intro hz1 bu)));have ee:=J (And.intro hj (And.intro dE (And.intro aT bQ)));have HT:=J hT;clear hT iG ny kB nx hst p5 hr fK me iB hx XR i4 hi aD hz1 bu hj dE aT bQ;go_upto_region 6 with fail;obtain⟨rb,pH⟩:∃rb,wr.heap.size=rb:=⟨_,rfl⟩;have fD:=Blk.new wr 136 #[.bool yf,.slice A5 n5 k5,.slice A6 n6 k6,.int .i64 st];rw[pH]at fD ⊢;have Yu:=HT.o.ext ((Ext.refl wr).alloc (.cells #[.bool yf,.slice A5 n5 k5,.slice A6 n6 k6,.int .i64 st] 136));have Yw:=R8.o.ext ((Ext.refl wr).alloc (.cells #[.bool yf,.slice A5 n5 k5,.slice A6 n6 k6,.int .i64 st] 136));generalize wr.alloc (.cells #[.bool yf,.slice A5 n5 k5,.slice A6 n6 k6,.int .i64 st] 136)=w7 at *;have HT:=J Yu;have HD:=J fD;have qz:=J Yw;clear fD Yu Yw p0 p1 p2 p3 hbr pH R8;refine wp_region_held_drew (S:=fun w'=>Ext wa w'/\Blk w' rb 136 #[.bool yf,.slice A5 n5 k5,.slice A6 n6 k6,.int .i64 st]) (by kernel_rfl) (by exact⟨HT.o.e.drew,HD.o.drew⟩) (fun hHeld=> ?_);refine atH (fun W=>TR wa wr W (.slice AL k cL) (.slice AM k cM) k k jU (L.map fun x=>Value.int .i64 (x.st:Int))/\Blk W rb 136 #[.bool yf,.slice A5 n5 k5,.slice A6 n6 k6,.int .i64 st]/\Ag 0 W (.agg #[.bool yf,.slice A5 n5 k5,.slice A6 n6 k6]) X.p X.q) ⟨HT.o.ext (Ext.refl _).drew,HD.o.drew,qz.o.ext (Ext.refl _).drew⟩ hHeld ?_
   clear hHeld;rintro W0 ⟨hT,hD,hR⟩ hHeld;have HT:=J hT;have HD:=J hD;have HR:=J hR;clear hT hD hR;refine' tk 0 16 rfl (by kernel_rfl) (fun _ _ _ h=>h) (by rfl) hHeld ?_ ?_
   rotate_left
   ·(intro _ _;go_simp;(try with_reducible rfl))
   try simp only[pu]
   refine' tk 1 17 rfl (by kernel_rfl) (fun _ _ _ h=>h) (by rfl) hHeld ?_ ?_
   rotate_left
   ·(intro _ _;go_simp;(try with_reducible rfl))
   try simp only[pu]
   refine' tk 2 18 rfl (by kernel_rfl) (fun _ _ _ h=>h) (by rfl) hHeld ?_ ?_
   rotate_left
   ·(intro w' bj;(try dsimp only at bj);obtain⟨c0,c1,c2,c3,_⟩:=Blk.fourX bj.2;go_simp;(try with_reducible rfl))
   try simp only[pu]
   refine' tk 6 22 rfl (by kernel_rfl) (fun _ _ _ h=>h) (by rfl) hHeld ?_ ?_
   rotate_left
   ·(intro _ _;go_simp;(try with_reducible rfl))
   try simp only[pu]
   refine' tk 7 23 rfl (by kernel_rfl) (fun _ _ _ h=>h) (by rfl) hHeld ?_ ?_
   rotate_left
   ·(intro _ _;go_simp;(try with_reducible rfl))
   try simp only[pu]
   refine' tk 8 24 rfl (by kernel_rfl) (fun _ _ _ h=>h) (by rfl) hHeld ?_ ?_
   rotate_left
   ·(intro w' bj;(try dsimp only at bj);obtain⟨c0,c1,c2,c3,_⟩:=Blk.fourX bj.2;go_simp;(try with_reducible rfl))
   try simp only[pu]
   refine wpAnyH_ready (rs:=[3,9]) (by kernel_rfl) (by simp) ?_
   refine AllReadyH.cons (i:=3) (o:=⟨some 19,_,_,_,_,_⟩) rfl (fun K hK=> ?_) (AllReadyH.cons (i:=9) (o:=⟨some 25,_,_,_,_,_⟩) rfl (fun K hK=> ?_) AllReadyH.nil)
   ·go_simp;go_at_call 84;refine(J0 _ _ X HR.o YW.o).mono ?_
    rintro e w5 ⟨v5,rfl,dO,hx5⟩;obtain⟨f5,g5,G5,j5,y5,Y5,z5,rfl⟩:=dO.shape;have hT:=HT.o.ext hx5;have hD:=HD.o.ext hx5;have hI:=dO;clear dO hx5;refine hK.out _ _ ?_ (fun hHeld=> ?_)
    ·exact⟨hT.e,hD⟩
    clear hK K;try simp only[pu]
    have HT:=J hT;have HD:=J hD;have HI:=J hI;clear hT hD hI;refine wpAnyH_ready (rs:=[4,9]) (by kernel_rfl) (by simp) ?_
    refine AllReadyH.cons (i:=4) (o:=⟨some 20,_,_,_,_,_⟩) rfl (fun K hK=> ?_) (AllReadyH.cons (i:=9) (o:=⟨some 25,_,_,_,_,_⟩) rfl (fun K hK=> ?_) AllReadyH.nil)
    ·go_simp;try go_wp2_with fail
     refine hK.out _ _ ?_ (fun hHeld=> ?_)
     ·first|exact⟨HT.o.e.alloc _,HD.o.alloc _⟩|exact⟨(HT.o.e.alloc _).drew,(HD.o.alloc _).drew⟩
     clear hK K;try simp only[pu]
     obtain⟨nr,mi⟩:∃nr,w5.heap.size=nr:=⟨_,rfl⟩;have hz:=Blk.new w5 26 #[.bool f5,.slice G5 g5 j5,.slice Y5 y5 z5];rw[mi]at hz ⊢;refine atH (fun W=>TR wa wr W (.slice AL k cL) (.slice AM k cM) k k jU (L.map fun x=>Value.int .i64 (x.st:Int))/\Blk W rb 136 #[.bool yf,.slice A5 n5 k5,.slice A6 n6 k6,.int .i64 st]/\Ag 0 W (.agg #[.bool f5,.slice G5 g5 j5,.slice Y5 y5 z5]) X.p X.q/\Blk W nr 26 #[.bool f5,.slice G5 g5 j5,.slice Y5 y5 z5]) ⟨HT.o.ext ((Ext.refl _).alloc _),HD.o.alloc _,HI.o.ext ((Ext.refl _).alloc _),hz⟩ hHeld ?_
     clear hHeld hz mi;rintro W2 ⟨hT,hD,hI,hB⟩ hHeld;have HT:=J hT;have HD:=J hD;have HI:=J hI;have HB:=J hB;clear hT hD hI hB;refine wpAnyH_ready (rs:=[5,9]) (by kernel_rfl) (by simp) ?_
     refine AllReadyH.cons (i:=5) (o:=⟨some 21,_,_,_,_,_⟩) rfl (fun K hK=> ?_) (AllReadyH.cons (i:=9) (o:=⟨some 25,_,_,_,_,_⟩) rfl (fun K hK=> ?_) AllReadyH.nil)
     ·refine AF rfl (.tmp 16) (.tmp 20) 54 rfl wa.heap.size 26 i0 _ 3 56 Tryz.underlying54 ef.o.1 ef.o.2.1 ef.o.2.2.1 ef.o.2.2.2 rfl (by decide) (.slice AL k cL) _ _ rfl HT.o.r ⟨nr,0,none⟩ 1 1 [.bool f5,.slice G5 g5 j5,.slice Y5 y5 z5] rfl rfl (World.news_of_block HB.o) Es (by unfold maxLen;omega) (by omega) HT.o.e.size ?_
      intro v6 w6 fy eb;have hT:=HT.o.row eb fy;have hD:=HD.o.past HT.o.r (by decide) eb;have hI:=HI.o.ku (KU.grown eb (BJ HT.o.r (by decide)));refine hK.out _ _ ?_ (fun hHeld=> ?_)
      ·exact⟨hT.e,hD⟩
      clear hK K;try simp only[pu]
      have HT:=J hT;have HD:=J hD;have HI:=J hI;clear hT hD hI;refine wpAnyH_ready (rs:=[9]) (by kernel_rfl) (by simp) ?_
      refine AllReadyH.cons (i:=9) (o:=⟨some 25,_,_,_,_,_⟩) rfl (fun K hK=> ?_) AllReadyH.nil;go_simp;try go_wp2_with fail
      refine hK.out _ _ ?_ (fun hHeld=> ?_)
      ·first|exact⟨HT.o.e.alloc _,HD.o.alloc _⟩|exact⟨(HT.o.e.alloc _).drew,(HD.o.alloc _).drew⟩
      clear hK K;try simp only[pu]
      obtain⟨nt,dI⟩:∃nt,w6.heap.size=nt:=⟨_,rfl⟩;have hz:=Blk.new w6 3 #[.int .i64 st];rw[dI]at hz ⊢;refine atH (fun W=>TR wa wr W v6 (.slice AM k cM) (k+1) k (jU++[.bool f5,.slice G5 g5 j5,.slice Y5 y5 z5]) (L.map fun x=>Value.int .i64 (x.st:Int))/\Blk W rb 136 #[.bool yf,.slice A5 n5 k5,.slice A6 n6 k6,.int .i64 st]/\Ag 0 W (.agg #[.bool f5,.slice G5 g5 j5,.slice Y5 y5 z5]) X.p X.q/\Blk W nt 3 #[.int .i64 st]) ⟨HT.o.ext ((Ext.refl _).alloc _),HD.o.alloc _,HI.o.ext ((Ext.refl _).alloc _),hz⟩ hHeld ?_
      clear hHeld hz dI;rintro W4 ⟨hT,hD,hI,hC⟩ hHeld;have HT:=J hT;have HD:=J hD;have HI:=J hI;have HC:=J hC;clear hT hD hI hC;refine wpAnyH_ready (rs:=[10]) (by kernel_rfl) (by simp) ?_
      refine AllReadyH.cons (i:=10) (o:=⟨some 26,_,_,_,_,_⟩) rfl (fun K hK=> ?_) AllReadyH.nil;refine AF rfl (.tmp 22) (.tmp 25) 41 rfl wa.heap.size 3 j0 _ 1 8 Tryz.underlying41 ee.o.1 ee.o.2.1 ee.o.2.2.1 ee.o.2.2.2 rfl (by decide) (.slice AM k cM) _ _ rfl HT.o.s ⟨nt,0,none⟩ 1 1 [.int .i64 st] rfl rfl (World.news_of_block HC.o) Ev (by unfold maxLen;omega) (by omega) HT.o.e.size ?_
      intro v7 ur jm dC;have hT:=HT.o.col dC jm;have hD:=HD.o.past HT.o.s (by decide) dC;have hI:=HI.o.ku (KU.grown dC (BJ HT.o.s (by decide)));refine hK.out _ _ ?_ (fun hHeld=> ?_)
      ·exact⟨hT.e,hD⟩
      clear hK K;try simp only[pu]
      have HT:=J hT;have HD:=J hD;have HI:=J hI;clear hT hD hI;refine' tk 11 4 rfl (by kernel_rfl) (fun _ _ _ h=>h) (by rfl) hHeld ?_ ?_
      rotate_left
      ·(intro _ _;go_simp;(try with_reducible rfl))
      try simp only[pu]
      refine' tk 12 5 rfl (by kernel_rfl) (fun _ _ _ h=>h) (by rfl) hHeld ?_ ?_
      rotate_left
      ·(intro _ _;go_simp;(try with_reducible rfl))
      try simp only[pu]
      refine wpAnyH_done (by kernel_rfl) ?_ _
      have fW:=Bp.push (v:= .bool false) (T:=L) (pm.o.ku HT.o.k) (KU.refl _) (by rw[lm.o];exact HT.o.r) HI.o;have ii:=Bx.push (T:=L) (x:=X) (by rw[lm.o,bF.o];exact HT.o.s);rw[<-kh.o]at fW ii;have i7:=J fW;have i8:=J ii;have tE:=J HT.o.e;clear hHeld fW ii HT HD HI ef ee qz;go_wp2_with fail;go_roundw
      ·exact⟨k+1,hlt,by go_num,by rw[<-ib.o];exact i7.o,by rw[<-ib.o];exact i8.o,tE.o⟩
      ·simp only[intOf];omega
     ·go_simp;try go_wp2_with fail
      refine hK.out _ _ ?_ (fun hHeld=> ?_)
      ·first|exact⟨HT.o.e.alloc _,HD.o.alloc _⟩|exact⟨(HT.o.e.alloc _).drew,(HD.o.alloc _).drew⟩
      clear hK K;try simp only[pu]
      obtain⟨nt,dI⟩:∃nt,W2.heap.size=nt:=⟨_,rfl⟩;have hz:=Blk.new W2 3 #[.int .i64 st];rw[dI]at hz ⊢;refine atH (fun W=>TR wa wr W (.slice AL k cL) (.slice AM k cM) k k jU (L.map fun x=>Value.int .i64 (x.st:Int))/\Blk W rb 136 #[.bool yf,.slice A5 n5 k5,.slice A6 n6 k6,.int .i64 st]/\Ag 0 W (.agg #[.bool f5,.slice G5 g5 j5,.slice Y5 y5 z5]) X.p X.q/\Blk W nr 26 #[.bool f5,.slice G5 g5 j5,.slice Y5 y5 z5]/\Blk W nt 3 #[.int .i64 st]) ⟨HT.o.ext ((Ext.refl _).alloc _),HD.o.alloc _,HI.o.ext ((Ext.refl _).alloc _),HB.o.alloc _,hz⟩ hHeld ?_
      clear hHeld hz dI;rintro W3 ⟨hT,hD,hI,hB,hC⟩ hHeld;have HT:=J hT;have HD:=J hD;have HI:=J hI;have HB:=J hB;have HC:=J hC;clear hT hD hI hB hC;refine wpAnyH_ready (rs:=[5]) (by kernel_rfl) (by simp) ?_
      refine AllReadyH.cons (i:=5) (o:=⟨some 21,_,_,_,_,_⟩) rfl (fun K hK=> ?_) AllReadyH.nil;refine AF rfl (.tmp 16) (.tmp 20) 54 rfl wa.heap.size 26 i0 _ 3 56 Tryz.underlying54 ef.o.1 ef.o.2.1 ef.o.2.2.1 ef.o.2.2.2 rfl (by decide) (.slice AL k cL) _ _ rfl HT.o.r ⟨nr,0,none⟩ 1 1 [.bool f5,.slice G5 g5 j5,.slice Y5 y5 z5] rfl rfl (World.news_of_block HB.o) Es (by unfold maxLen;omega) (by omega) HT.o.e.size ?_
      intro v6 w6 fy eb;have hT:=HT.o.row eb fy;have hD:=HD.o.past HT.o.r (by decide) eb;have hI:=HI.o.ku (KU.grown eb (BJ HT.o.r (by decide)));have hC:=HC.o.past HT.o.r (by decide) eb;refine hK.out _ _ ?_ (fun hHeld=> ?_)
      ·exact⟨hT.e,hD⟩
      clear hK K;try simp only[pu]
      have HT:=J hT;have HD:=J hD;have HI:=J hI;have HC:=J hC;clear hT hD hI hC;refine wpAnyH_ready (rs:=[10]) (by kernel_rfl) (by simp) ?_
      refine AllReadyH.cons (i:=10) (o:=⟨some 26,_,_,_,_,_⟩) rfl (fun K hK=> ?_) AllReadyH.nil;refine AF rfl (.tmp 22) (.tmp 25) 41 rfl wa.heap.size 3 j0 _ 1 8 Tryz.underlying41 ee.o.1 ee.o.2.1 ee.o.2.2.1 ee.o.2.2.2 rfl (by decide) (.slice AM k cM) _ _ rfl HT.o.s ⟨nt,0,none⟩ 1 1 [.int .i64 st] rfl rfl (World.news_of_block HC.o) Ev (by unfold maxLen;omega) (by omega) HT.o.e.size ?_
      intro v7 ur jm dC;have hT:=HT.o.col dC jm;have hD:=HD.o.past HT.o.s (by decide) dC;have hI:=HI.o.ku (KU.grown dC (BJ HT.o.s (by decide)));refine hK.out _ _ ?_ (fun hHeld=> ?_)
      ·exact⟨hT.e,hD⟩
      clear hK K;try simp only[pu]
      have HT:=J hT;have HD:=J hD;have HI:=J hI;clear hT hD hI;refine' tk 11 4 rfl (by kernel_rfl) (fun _ _ _ h=>h) (by rfl) hHeld ?_ ?_
      rotate_left
      ·(intro _ _;go_simp;(try with_reducible rfl))
      try simp only[pu]
      refine' tk 12 5 rfl (by kernel_rfl) (fun _ _ _ h=>h) (by rfl) hHeld ?_ ?_
      rotate_left
      ·(intro _ _;go_simp;(try with_reducible rfl))
      try simp only[pu]
      refine wpAnyH_done (by kernel_rfl) ?_ _
      have fW:=Bp.push (v:= .bool false) (T:=L) (pm.o.ku HT.o.k) (KU.refl _) (by rw[lm.o];exact HT.o.r) HI.o;have ii:=Bx.push (T:=L) (x:=X) (by rw[lm.o,bF.o];exact HT.o.s);rw[<-kh.o]at fW ii;have i7:=J fW;have i8:=J ii;have tE:=J HT.o.e;clear hHeld fW ii HT HD HI ef ee qz;go_wp2_with fail;go_roundw
      ·exact⟨k+1,hlt,by go_num,by rw[<-ib.o];exact i7.o,by rw[<-ib.o];exact i8.o,tE.o⟩
      ·simp only[intOf];omega
    ·go_simp;try go_wp2_with fail
     refine hK.out _ _ ?_ (fun hHeld=> ?_)
     ·first|exact⟨HT.o.e.alloc _,HD.o.alloc _⟩|exact⟨(HT.o.e.alloc _).drew,(HD.o.alloc _).drew⟩
     clear hK K;try simp only[pu]
     obtain⟨nt,dI⟩:∃nt,w5.heap.size=nt:=⟨_,rfl⟩;have hz:=Blk.new w5 3 #[.int .i64 st];rw[dI]at hz ⊢;refine atH (fun W=>TR wa wr W (.slice AL k cL) (.slice AM k cM) k k jU (L.map fun x=>Value.int .i64 (x.st:Int))/\Blk W rb 136 #[.bool yf,.slice A5 n5 k5,.slice A6 n6 k6,.int .i64 st]/\Ag 0 W (.agg #[.bool f5,.slice G5 g5 j5,.slice Y5 y5 z5]) X.p X.q/\Blk W nt 3 #[.int .i64 st]) ⟨HT.o.ext ((Ext.refl _).alloc _),HD.o.alloc _,HI.o.ext ((Ext.refl _).alloc _),hz⟩ hHeld ?_
     clear hHeld hz dI;rintro W2 ⟨hT,hD,hI,hC⟩ hHeld;have HT:=J hT;have HD:=J hD;have HI:=J hI;have HC:=J hC;clear hT hD hI hC;refine wpAnyH_ready (rs:=[4]) (by kernel_rfl) (by simp) ?_
     refine AllReadyH.cons (i:=4) (o:=⟨some 20,_,_,_,_,_⟩) rfl (fun K hK=> ?_) AllReadyH.nil;go_simp;try go_wp2_with fail
     refine hK.out _ _ ?_ (fun hHeld=> ?_)
     ·first|exact⟨HT.o.e.alloc _,HD.o.alloc _⟩|exact⟨(HT.o.e.alloc _).drew,(HD.o.alloc _).drew⟩
     clear hK K;try simp only[pu]
     obtain⟨nr,mi⟩:∃nr,W2.heap.size=nr:=⟨_,rfl⟩;have hz:=Blk.new W2 26 #[.bool f5,.slice G5 g5 j5,.slice Y5 y5 z5];rw[mi]at hz ⊢;refine atH (fun W=>TR wa wr W (.slice AL k cL) (.slice AM k cM) k k jU (L.map fun x=>Value.int .i64 (x.st:Int))/\Blk W rb 136 #[.bool yf,.slice A5 n5 k5,.slice A6 n6 k6,.int .i64 st]/\Ag 0 W (.agg #[.bool f5,.slice G5 g5 j5,.slice Y5 y5 z5]) X.p X.q/\Blk W nr 26 #[.bool f5,.slice G5 g5 j5,.slice Y5 y5 z5]/\Blk W nt 3 #[.int .i64 st]) ⟨HT.o.ext ((Ext.refl _).alloc _),HD.o.alloc _,HI.o.ext ((Ext.refl _).alloc _),hz,HC.o.alloc _⟩ hHeld ?_
     clear hHeld hz mi;rintro W3 ⟨hT,hD,hI,hB,hC⟩ hHeld;have HT:=J hT;have HD:=J hD;have HI:=J hI;have HB:=J hB;have HC:=J hC;clear hT hD hI hB hC;refine wpAnyH_ready (rs:=[5]) (by kernel_rfl) (by simp) ?_
     refine AllReadyH.cons (i:=5) (o:=⟨some 21,_,_,_,_,_⟩) rfl (fun K hK=> ?_) AllReadyH.nil;refine AF rfl (.tmp 16) (.tmp 20) 54 rfl wa.heap.size 26 i0 _ 3 56 Tryz.underlying54 ef.o.1 ef.o.2.1 ef.o.2.2.1 ef.o.2.2.2 rfl (by decide) (.slice AL k cL) _ _ rfl HT.o.r ⟨nr,0,none⟩ 1 1 [.bool f5,.slice G5 g5 j5,.slice Y5 y5 z5] rfl rfl (World.news_of_block HB.o) Es (by unfold maxLen;omega) (by omega) HT.o.e.size ?_
     intro v6 w6 fy eb;have hT:=HT.o.row eb fy;have hD:=HD.o.past HT.o.r (by decide) eb;have hI:=HI.o.ku (KU.grown eb (BJ HT.o.r (by decide)));have hC:=HC.o.past HT.o.r (by decide) eb;refine hK.out _ _ ?_ (fun hHeld=> ?_)
     ·exact⟨hT.e,hD⟩
     clear hK K;try simp only[pu]
     have HT:=J hT;have HD:=J hD;have HI:=J hI;have HC:=J hC;clear hT hD hI hC;refine wpAnyH_ready (rs:=[10]) (by kernel_rfl) (by simp) ?_
     refine AllReadyH.cons (i:=10) (o:=⟨some 26,_,_,_,_,_⟩) rfl (fun K hK=> ?_) AllReadyH.nil;refine AF rfl (.tmp 22) (.tmp 25) 41 rfl wa.heap.size 3 j0 _ 1 8 Tryz.underlying41 ee.o.1 ee.o.2.1 ee.o.2.2.1 ee.o.2.2.2 rfl (by decide) (.slice AM k cM) _ _ rfl HT.o.s ⟨nt,0,none⟩ 1 1 [.int .i64 st] rfl rfl (World.news_of_block HC.o) Ev (by unfold maxLen;omega) (by omega) HT.o.e.size ?_
     intro v7 ur jm dC;have hT:=HT.o.col dC jm;have hD:=HD.o.past HT.o.s (by decide) dC;have hI:=HI.o.ku (KU.grown dC (BJ HT.o.s (by decide)));refine hK.out _ _ ?_ (fun hHeld=> ?_)
     ·exact⟨hT.e,hD⟩
     clear hK K;try simp only[pu]
     have HT:=J hT;have HD:=J hD;have HI:=J hI;clear hT hD hI;refine' tk 11 4 rfl (by kernel_rfl) (fun _ _ _ h=>h) (by rfl) hHeld ?_ ?_
     rotate_left
     ·(intro _ _;go_simp;(try with_reducible rfl))
     try simp only[pu]
     refine' tk 12 5 rfl (by kernel_rfl) (fun _ _ _ h=>h) (by rfl) hHeld ?_ ?_
     rotate_left
     ·(intro _ _;go_simp;(try with_reducible rfl))
     try simp only[pu]
     refine wpAnyH_done (by kernel_rfl) ?_ _
     have fW:=Bp.push (v:= .bool false) (T:=L) (pm.o.ku HT.o.k) (KU.refl _) (by rw[lm.o];exact HT.o.r) HI.o;have ii:=Bx.push (T:=L) (x:=X) (by rw[lm.o,bF.o];exact HT.o.s);rw[<-kh.o]at fW ii;have i7:=J fW;have i8:=J ii;have tE:=J HT.o.e;clear hHeld fW ii HT HD HI ef ee qz;go_wp2_with fail;go_roundw
     ·exact⟨k+1,hlt,by go_num,by rw[<-ib.o];exact i7.o,by rw[<-ib.o];exact i8.o,tE.o⟩
     ·simp only[intOf];omega
   ·go_simp;try go_wp2_with fail
    refine hK.out _ _ ?_ (fun hHeld=> ?_)
    ·first|exact⟨HT.o.e.alloc _,HD.o.alloc _⟩|exact⟨(HT.o.e.alloc _).drew,(HD.o.alloc _).drew⟩
    clear hK K;try simp only[pu]
    obtain⟨nt,dI⟩:∃nt,W0.heap.size=nt:=⟨_,rfl⟩;have hz:=Blk.new W0 3 #[.int .i64 st];rw[dI]at hz ⊢;refine atH (fun W=>TR wa wr W (.slice AL k cL) (.slice AM k cM) k k jU (L.map fun x=>Value.int .i64 (x.st:Int))/\Blk W rb 136 #[.bool yf,.slice A5 n5 k5,.slice A6 n6 k6,.int .i64 st]/\Ag 0 W (.agg #[.bool yf,.slice A5 n5 k5,.slice A6 n6 k6]) X.p X.q/\Blk W nt 3 #[.int .i64 st]) ⟨HT.o.ext ((Ext.refl _).alloc _),HD.o.alloc _,HR.o.ext ((Ext.refl _).alloc _),hz⟩ hHeld ?_
    clear hHeld hz dI;rintro W1 ⟨hT,hD,hR,hC⟩ hHeld;have HT:=J hT;have HD:=J hD;have HR:=J hR;have HC:=J hC;clear hT hD hR hC;refine wpAnyH_ready (rs:=[3]) (by kernel_rfl) (by simp) ?_
    refine AllReadyH.cons (i:=3) (o:=⟨some 19,_,_,_,_,_⟩) rfl (fun K hK=> ?_) AllReadyH.nil;go_simp;go_at_call 84;refine(J0 _ _ X HR.o YW.o).mono ?_
    rintro e w5 ⟨v5,rfl,dO,hx5⟩;obtain⟨f5,g5,G5,j5,y5,Y5,z5,rfl⟩:=dO.shape;have hT:=HT.o.ext hx5;have hD:=HD.o.ext hx5;have hI:=dO;have hC:=HC.o.ext hx5;clear dO hx5;refine hK.out _ _ ?_ (fun hHeld=> ?_)
    ·exact⟨hT.e,hD⟩
    clear hK K;try simp only[pu]
    have HT:=J hT;have HD:=J hD;have HI:=J hI;have HC:=J hC;clear hT hD hI hC;refine wpAnyH_ready (rs:=[4]) (by kernel_rfl) (by simp) ?_
    refine AllReadyH.cons (i:=4) (o:=⟨some 20,_,_,_,_,_⟩) rfl (fun K hK=> ?_) AllReadyH.nil;go_simp;try go_wp2_with fail
    refine hK.out _ _ ?_ (fun hHeld=> ?_)
    ·first|exact⟨HT.o.e.alloc _,HD.o.alloc _⟩|exact⟨(HT.o.e.alloc _).drew,(HD.o.alloc _).drew⟩
    clear hK K;try simp only[pu]
    obtain⟨nr,mi⟩:∃nr,w5.heap.size=nr:=⟨_,rfl⟩;have hz:=Blk.new w5 26 #[.bool f5,.slice G5 g5 j5,.slice Y5 y5 z5];rw[mi]at hz ⊢;refine atH (fun W=>TR wa wr W (.slice AL k cL) (.slice AM k cM) k k jU (L.map fun x=>Value.int .i64 (x.st:Int))/\Blk W rb 136 #[.bool yf,.slice A5 n5 k5,.slice A6 n6 k6,.int .i64 st]/\Ag 0 W (.agg #[.bool f5,.slice G5 g5 j5,.slice Y5 y5 z5]) X.p X.q/\Blk W nr 26 #[.bool f5,.slice G5 g5 j5,.slice Y5 y5 z5]/\Blk W nt 3 #[.int .i64 st]) ⟨HT.o.ext ((Ext.refl _).alloc _),HD.o.alloc _,HI.o.ext ((Ext.refl _).alloc _),hz,HC.o.alloc _⟩ hHeld ?_
    clear hHeld hz mi;rintro W3 ⟨hT,hD,hI,hB,hC⟩ hHeld;have HT:=J hT;have HD:=J hD;have HI:=J hI;have HB:=J hB;have HC:=J hC;clear hT hD hI hB hC;refine wpAnyH_ready (rs:=[5]) (by kernel_rfl) (by simp) ?_
    refine AllReadyH.cons (i:=5) (o:=⟨some 21,_,_,_,_,_⟩) rfl (fun K hK=> ?_) AllReadyH.nil;refine AF rfl (.tmp 16) (.tmp 20) 54 rfl wa.heap.size 26 i0 _ 3 56 Tryz.underlying54 ef.o.1 ef.o.2.1 ef.o.2.2.1 ef.o.2.2.2 rfl (by decide) (.slice AL k cL) _ _ rfl HT.o.r ⟨nr,0,none⟩ 1 1 [.bool f5,.slice G5 g5 j5,.slice Y5 y5 z5] rfl rfl (World.news_of_block HB.o) Es (by unfold maxLen;omega) (by omega) HT.o.e.size ?_
    intro v6 w6 fy eb;have hT:=HT.o.row eb fy;have hD:=HD.o.past HT.o.r (by decide) eb;have hI:=HI.o.ku (KU.grown eb (BJ HT.o.r (by decide)));have hC:=HC.o.past HT.o.r (by decide) eb;refine hK.out _ _ ?_ (fun hHeld=> ?_)
    ·exact⟨hT.e,hD⟩
    clear hK K;try simp only[pu]
    have HT:=J hT;have HD:=J hD;have HI:=J hI;have HC:=J hC;clear hT hD hI hC;refine wpAnyH_ready (rs:=[10]) (by kernel_rfl) (by simp) ?_
    refine AllReadyH.cons (i:=10) (o:=⟨some 26,_,_,_,_,_⟩) rfl (fun K hK=> ?_) AllReadyH.nil;refine AF rfl (.tmp 22) (.tmp 25) 41 rfl wa.heap.size 3 j0 _ 1 8 Tryz.underlying41 ee.o.1 ee.o.2.1 ee.o.2.2.1 ee.o.2.2.2 rfl (by decide) (.slice AM k cM) _ _ rfl HT.o.s ⟨nt,0,none⟩ 1 1 [.int .i64 st] rfl rfl (World.news_of_block HC.o) Ev (by unfold maxLen;omega) (by omega) HT.o.e.size ?_
    intro v7 ur jm dC;have hT:=HT.o.col dC jm;have hD:=HD.o.past HT.o.s (by decide) dC;have hI:=HI.o.ku (KU.grown dC (BJ HT.o.s (by decide)));refine hK.out _ _ ?_ (fun hHeld=> ?_)
    ·exact⟨hT.e,hD⟩
    clear hK K;try simp only[pu]
    have HT:=J hT;have HD:=J hD;have HI:=J hI;clear hT hD hI;refine' tk 11 4 rfl (by kernel_rfl) (fun _ _ _ h=>h) (by rfl) hHeld ?_ ?_
    rotate_left
    ·(intro _ _;go_simp;(try with_reducible rfl))
    try simp only[pu]
    refine' tk 12 5 rfl (by kernel_rfl) (fun _ _ _ h=>h) (by rfl) hHeld ?_ ?_
    rotate_left
    ·(intro _ _;go_simp;(try with_reducible rfl))
    try simp only[pu]
    refine wpAnyH_done (by kernel_rfl) ?_ _
    have fW:=Bp.push (v:= .bool false) (T:=L) (pm.o.ku HT.o.k) (KU.refl _) (by rw[lm.o];exact HT.o.r) HI.o;have ii:=Bx.push (T:=L) (x:=X) (by rw[lm.o,bF.o];exact HT.o.s);rw[<-kh.o]at fW ii;have i7:=J fW;have i8:=J ii;have tE:=J HT.o.e;clear hHeld fW ii HT HD HI ef ee qz;go_wp2_with fail;go_roundw
    ·exact⟨k+1,hlt,by go_num,by rw[<-ib.o];exact i7.o,by rw[<-ib.o];exact i8.o,tE.o⟩
    ·simp only[intOf];omega
  ·obtain rfl:k=n:=by omega
   rw[show ns.take k=ns from qaf (by rw[<-HN.o];exact qab _)]at jH iB;have i7:=J jH;have i8:=J iB;have HX:=J (bq.o.trans hx);have hkk:decide ((k:Int)<(k:Int))=false:=decide_eq_false (by omega);clear jH iB hx gf;go_wp2_with fail;go_ret2;exact⟨_,_,rfl,i7.o.mono bq.o.size,i8.o.mono bq.o.size,HX.o⟩
structure RdR (g:Nat) (w:World) (ts:List Tok) (a:Nat) (bad:Bool) (ns:List Nd) (lg:Bool) (tv nv:Value):Prop where
 blk:Blk w g 120 #[tv,.int .i64 (a:Int),.bool bad,nv,.bool lg]
 row:AB (g+1) w nv ns
 tok:IQ g w tv ts
 few:ns.length<=a
 le:a<=ts.length
 max:ts.length<=1000000
section
variable {g:Nat} {w w':World} {ts:List Tok} {a:Nat} {bad lg:Bool} {ns:List Nd} {tv nv:Value}
theorem RdR.keep(h:RdR g w ts a bad ns lg tv nv)(hx:Ext w w'):RdR g w' ts a bad ns lg tv nv:=
 ⟨h.blk.ext hx,h.row.ext hx,h.tok.below (Below.mono hx (qaK h.blk.lt)),h.few,h.le,h.max⟩
theorem Blk.five'{t:TypeId}{c1 c2 c3 c4 c5:Value}(h:Blk w g t #[c1,c2,c3,c4,c5]):(w.cell? ⟨g,0,none⟩=some c1/\w.cell? ⟨g,1,none⟩=some c2/\w.cell? ⟨g,2,none⟩=some c3/\w.cell? ⟨g,3,none⟩=some c4/\w.cell? ⟨g,4,none⟩=some c5)/\(w.frozen? ⟨g,1,none⟩=false/\w.frozen? ⟨g,2,none⟩=false/\w.frozen? ⟨g,3,none⟩=false/\w.frozen? ⟨g,4,none⟩=false)/\g<w.heap.size:=
 ⟨⟨h.cell 0,h.cell 1,h.cell 2,h.cell 3,h.cell 4⟩,⟨h.frozen 1,h.frozen 2,h.frozen 3,h.frozen 4⟩,h.lt⟩
theorem KR.set(h:Below g w w)(o:Nat)(u:Value):KR g nv nv w (w.setCell ⟨g,o,none⟩ u):=by
 have hb:Below g w (w.setCell ⟨g,o,none⟩ u):=Below.setCell h (p:=⟨g,o,none⟩) (qab _) _;exact⟨hb.os,hb.tape,hb.output,hb.size,fun k _ hk _=>Below.heap_setCell _ _ _ k hk,fun _ hj=> .inl hj⟩
theorem RdR.stepR(h:RdR g w ts a bad ns lg tv nv)(ha:a<ts.length):RdR g (w.setCell ⟨g,1,none⟩ (.int .i64 ((a:Int)+1))) ts (a+1) bad ns lg tv nv/\KR g nv nv w (w.setCell ⟨g,1,none⟩ (.int .i64 ((a:Int)+1))):=by
 have hk:KR g nv nv w (w.setCell ⟨g,1,none⟩ (.int .i64 ((a:Int)+1))):=KR.set (Below.refl g w) 1 _;have hb:Below g w (w.setCell ⟨g,1,none⟩ (.int .i64 ((a:Int)+1))):=Below.setCell (Below.refl g w) (p:=⟨g,1,none⟩) (qab _) _;refine⟨⟨?_,h.row.kept (fun k hk _=>Below.heap_setCell _ _ _ k (by show k≠g;omega)),h.tok.below hb,by have:=h.few;omega,ha,h.max⟩,hk⟩;have h3:=h.blk.set_ 1 (.int .i64 ((a:Int)+1));rw[qcd];exact h3
theorem RdR.fail(h:RdR g w ts a bad ns lg tv nv):RdR g (w.setCell ⟨g,2,none⟩ (.bool true)) ts a true ns lg tv nv/\KR g nv nv w (w.setCell ⟨g,2,none⟩ (.bool true)):=by
 have hk:KR g nv nv w (w.setCell ⟨g,2,none⟩ (.bool true)):=KR.set (Below.refl g w) 2 _;have hb:Below g w (w.setCell ⟨g,2,none⟩ (.bool true)):=Below.setCell (Below.refl g w) (p:=⟨g,2,none⟩) (qab _) _;exact⟨⟨h.blk.set_ 2 (.bool true),h.row.kept (fun k hk _=>Below.heap_setCell _ _ _ k (by show k≠g;omega)),h.tok.below hb,h.few,h.le,h.max⟩,hk⟩
theorem RdR.large(h:RdR g w ts a bad ns lg tv nv)(l2:Bool):RdR g (w.setCell ⟨g,4,none⟩ (.bool l2)) ts a bad ns l2 tv nv/\KR g nv nv w (w.setCell ⟨g,4,none⟩ (.bool l2)):=by
 have hk:KR g nv nv w (w.setCell ⟨g,4,none⟩ (.bool l2)):=KR.set (Below.refl g w) 4 _;have hb:Below g w (w.setCell ⟨g,4,none⟩ (.bool l2)):=Below.setCell (Below.refl g w) (p:=⟨g,4,none⟩) (qab _) _;exact⟨⟨h.blk.set_ 4 (.bool l2),h.row.kept (fun k hk _=>Below.heap_setCell _ _ _ k (by show k≠g;omega)),h.tok.below hb,h.few,h.le,h.max⟩,hk⟩
end
theorem CT(g:Nat)(w:World)(ts:List Tok)(a:Nat)(bad:Bool)(ns:List Nd)(lg:Bool)(tv nv:Value)(c:List UInt8)(h:RdR g w ts a bad ns lg tv nv):
  Calls Tryz.prog 129 #[.pointer (some ⟨g,0,none⟩),str c] w fun e w'=>e= .returned (.bool (!bad && isS ts a c))/\Dr w w':=by
 have hb:=h.blk;have hn:=h.row;obtain⟨A,c0,rfl,aa⟩:=h.tok;obtain⟨A2,c2,rfl⟩:=hn.shape;have cH:=h.le;have fI:=h.max;obtain⟨⟨k0,k1,k2,k3,k4⟩,_,hg⟩:=hb.five';clear hb hn h;cases bad
 ·obtain⟨n,dI⟩:∃n,n=ts.length:=⟨_,rfl⟩;rw[<-dI]at k0 cH fI;have lP:=J dI;clear dI;rcases qah a n with hlt|fC
  ·have hlt2:a<ts.length:=by rw[<-lP.o];exact hlt
   obtain⟨b,rfl,_,_,hc⟩:=aa (by omega);obtain⟨q0,q1,q2⟩:=hc a hlt2;have hI:isS ts a c=((ts[a].kind == 3) && (ts[a].text == c)):=by
    unfold isS;rw[qad hlt2]
   have HI:=J hI;clear hI aa hc;generalize ts[a].kind=tk at *;generalize ts[a].text=tx at *;generalize isS ts a c=r at *;have z1:decide (a<n)=true:=decide_eq_true hlt;cases hk:(tk == 3)
   ·have hk2:((tk:Int) == 3)=false:=by
     rw[beq_eq_false_iff_ne]at hk ⊢;omega
    rw[hk]at HI;clear hk;go_enter Tryz.func129,Tryz.ntmps129;go_wp2_with fail;go_quiet (fail);go_wp2_with fail;go_ret;exact⟨by rw[HI.o];rfl,(Dr.refl w).drewN _⟩
   ·have hk2:((tk:Int) == 3)=true:=by
     rw[beq_iff_eq]at hk ⊢;omega
    rw[hk]at HI;clear hk;go_enter Tryz.func129,Tryz.ntmps129;go_wp2_with fail;go_quiet (fail);go_wp2_with fail;go_ret;exact⟨by rw[HI.o];rfl,(Dr.refl w).drewN _⟩
  ·have HI:Hid (isS ts a c=false):=J (by
    unfold isS;rw[qav (by rw[<-lP.o];exact fC)])
   have z1:decide (a<n)=false:=decide_eq_false (by omega);have z2:¬(a:Int)<(n:Int):=by omega
   clear aa;go_enter Tryz.func129,Tryz.ntmps129;go_wp2_with fail;go_quiet (fail);go_wp2_with fail;go_ret;exact⟨by rw[HI.o];rfl,(Dr.refl w).drewN _⟩
 ·clear aa;go_enter Tryz.func129,Tryz.ntmps129;go_wp2_with fail;go_quiet (fail);go_wp2_with fail;go_ret;exact⟨rfl,(Dr.refl w).drewN _⟩
theorem Dx(g:Nat)(w:World)(ts:List Tok)(a:Nat)(bad:Bool)(ns:List Nd)(lg:Bool)(tv nv:Value)(c:List UInt8)(h:RdR g w ts a bad ns lg tv nv):
  Calls Tryz.prog 268 #[.pointer (some ⟨g,0,none⟩),str c] w fun e w'=>e= .returned (.tuple #[])/\KR g nv nv w w'/\RdR g w' ts (if (!bad && isS ts a c)=true then a+1 else a) (!(!bad && isS ts a c)) ns lg tv nv:=by
 have HS:=J (CT g w ts a bad ns lg tv nv c h);have H:=J h;have fI:=h.max;have cH:=h.le;cases hs:(!bad && isS ts a c)
 ·rw[hs]at HS;clear h hs;go_enter Tryz.func268,Tryz.ntmps268;go_wp2_with fail;refine HS.o.mono ?_
  rintro e w1 ⟨rfl,hd⟩;have hr:=H.o.keep hd.ext;have HR:=J hr;have HD:=J hd;obtain⟨⟨k0,k1,k2,k3,k4⟩,⟨f1,f2,f3,f4⟩,hg⟩:=hr.blk.five';clear hd hr;go_wp2_with fail;go_end0;have h3:=HR.o.fail;exact⟨rfl,(KR.of_ext HD.o.ext).trans h3.2,h3.1⟩
 ·rw[hs]at HS;have hlt:=Cs (qbN.1 hs).2;have VQ:bad=false:=by have:=(qbN.1 hs).1;simpa using this
  subst VQ;have aT:IntKind.i64.wrap ((a:Int)+1)=(a:Int)+1:=IntWalk.i64_in _ (by omega);clear h hs;go_enter Tryz.func268,Tryz.ntmps268;go_wp2_with fail;refine HS.o.mono ?_
  rintro e w1 ⟨rfl,hd⟩;have hr:=H.o.keep hd.ext;have HR:=J hr;have HD:=J hd;obtain⟨⟨k0,k1,k2,k3,k4⟩,⟨f1,f2,f3,f4⟩,hg⟩:=hr.blk.five';clear hd hr;go_wp2_with fail
  (try simp only[Exit.inBlock,Exit.then])
  refine bodyPost_ret (results_none rfl _ _ _) rfl ?_
  have h3:=HR.o.stepR hlt;exact⟨rfl,(KR.of_ext HD.o.ext).trans h3.2,h3.1⟩
def EB(k first z:Int)(len:Nat)(t:List UInt8):Nd:=if Az k=1 then ⟨k,(len:Int)-1,0,z,t⟩ else if Az k=2 then ⟨k,first,(len:Int)-1,z,t⟩ else ⟨k,0,0,z,t⟩
theorem Ce(g:Nat)(w:World)(ts:List Tok)(a:Nat)(bad:Bool)(ns:List Nd)(lg:Bool)(tv nv:Value)(k first z:Int)(t:List UInt8)(h:RdR g w ts a bad ns lg tv nv)(hf:ns.length+1<=a):
  Calls Tryz.prog 130 #[.pointer (some ⟨g,0,none⟩),.int .i64 k,.int .i64 first,.int .i64 z,str t] w fun e w'=>∃nv',e= .returned (.tuple #[])/\KR g nv nv' w w'/\RdR g w' ts a bad (ns++[EB k first z ns.length t]) lg tv nv':=by
 have ax:=h.blk;have bc:=h.row;have HT:=J h.tok;have cH:=h.le;have fI:=h.max;have HB:=J ax;have HR:=J bc;obtain⟨A,c,rfl⟩:=bc.shape;have eC:=ax.lt;obtain⟨i0,hi,aD,hz1,bu⟩:=info_parts EP;obtain⟨s,hs⟩:∃s:ByteArray,s=⟨t.toArray⟩:=⟨_,rfl⟩;have yy:Hid (str t= .string s):=J (by rw[hs];rfl);rw[yy.o];clear hs h bc;have aS:=J (fun W=>Bv W k);obtain⟨⟨k0,k1,k2,k3,k4⟩,⟨f1,f2,f3,f4⟩,_⟩:=ax.five';clear ax;obtain⟨n,hn⟩:∃n,n=ns.length:=⟨_,rfl⟩;rw[<-hn]at hf k3 ⊢;have HN:=J hn;clear hn;have aT:IntKind.i64.wrap ((n:Int)-1)=(n:Int)-1:=IntWalk.i64_in _ (by omega);have key:=FA k;have vJ:∀q:Int,¬q=1->(q == 1)=false:=fun q h=>by rw[beq_eq_false_iff_ne];exact h
 clear vJ;have h3:(Az k≠1/\Az k≠2)\/Az k=1\/Az k=2:=by omega
 rcases h3 with ⟨vG,vF⟩|aJ|aJ
 ·have b1:(Az k == 1)=false:=by rw[beq_eq_false_iff_ne];exact vG
  have b2:(Az k == 2)=false:=by rw[beq_eq_false_iff_ne];exact vF
  have iS:Hid (EB k first z ns.length t=⟨k,0,0,z,t⟩):=J (by unfold EB;rw[if_neg vG,if_neg vF]);generalize Az k=op at *;go_enter Tryz.func130,Tryz.ntmps130;go_wp2_with fail;refine(aS.o _).mono ?_
  rintro e w2 ⟨rfl,rfl⟩;obtain⟨w0,dE⟩:∃w0,w0=w.alloc (.cells #[.int .i64 k,.int .i64 0,.int .i64 0,.int .i64 z,.string s] 95):=⟨_,rfl⟩;have hx0:Ext w w0:=by rw[dE];exact((Ext.refl w).alloc _)
  have oI:Blk w0 w.heap.size 95 #[.int .i64 k,.int .i64 0,.int .i64 0,.int .i64 z,.string s]:=by rw[dE];exact(Blk.new w _ _)
  have cA:w0.heap.size=w.heap.size+1:=by rw[dE];simp
  have aj:=J (HB.o.ext hx0);have i9:=J (HR.o.ext hx0);have bP:=J hx0;have aH:ns.length=n:=HN.o.symm;have rp:Hid (w.ownsRow (g+1) 95 5 (.slice A n c) n (BR ns)):=J (by have h:=HR.o;unfold AB at h;rw[aH]at h;exact h);have hne:∀q,(Value.slice A n c).ownBlock=some q->g≠q:=fun q hq=>by have:=AQ rp.o q hq;omega
  have jY:Hid (∀w':World,(w0.alloc (.cells #[.int .i64 k,.int .i64 0,.int .i64 0,.int .i64 z,.string s] 95)).drew.grownBy w' (Value.slice A n c).ownBlock->Blk w' g 120 #[tv,.int .i64 (a:Int),.bool bad,.slice A n c,.bool lg]/\(Below g w0 w'/\∀q,q<w.heap.size->(Value.slice A n c).ownBlock≠some q->w'.heap[q]? =w.heap[q]?)):=J (fun w' aC=>by
   refine⟨?_,?_⟩
   ·have h1:=aC.block g (show g<(w0.alloc (.cells #[.int .i64 k,.int .i64 0,.int .i64 0,.int .i64 z,.string s] 95)).drew.heap.size by simp;omega) (fun e=>hne g e.symm rfl);have h2:=(aj.o.alloc (.cells #[.int .i64 k,.int .i64 0,.int .i64 0,.int .i64 z,.string s] 95)).drew;rw[aH]at h2;exact h1.trans h2
   ·refine⟨(((Below.refl g w0).alloc (by omega) _).drew).grown aC (by simp;omega) (fun q hq=>by have:=AQ rp.o q hq;omega),fun q hq hne2=> ?_⟩;have h1:=aC.block q (show q<(w0.alloc (.cells #[.int .i64 k,.int .i64 0,.int .i64 0,.int .i64 z,.string s] 95)).drew.heap.size by simp;omega) (fun e=>hne2 e.symm);rw[h1];exact(Below.heap_alloc w0 _ q (by omega)).trans (hx0.block q hq))
  have dc:Hid (∀(j:Nat) (u:Value),[Value.int .i64 k,Value.int .i64 0,Value.int .i64 0,Value.int .i64 z,Value.string s][j]? =some u->(w0.alloc (.cells #[.int .i64 k,.int .i64 0,.int .i64 0,.int .i64 z,.string s] 95)).drew.cell? ((⟨w0.heap.size,0,none⟩:Addr).add j)=some u):=J (Cd w0 95 [.int .i64 k,.int .i64 0,.int .i64 0,.int .i64 z,.string s]);have ec:Hid ((w0.alloc (.cells #[.int .i64 k,.int .i64 0,.int .i64 0,.int .i64 z,.string s] 95)).drew.ownsRow (g+1) 95 5 (.slice A n c) n (BR ns)):=J (by
   have h:=Ah i9.o (w':=(w0.alloc (.cells #[.int .i64 k,.int .i64 0,.int .i64 0,.int .i64 z,.string s] 95)).drew) (fun k _ hk=>Below.heap_alloc w0 _ k hk);rw[aH]at h;exact h)
  have ag:Hid (n+1<=maxLen):=J (by unfold maxLen;omega);have ba:Hid ((n+1)*48<=140737488355328):=J (by omega);have be:Hid (g+1<=(w0.alloc (.cells #[.int .i64 k,.int .i64 0,.int .i64 0,.int .i64 z,.string s] 95)).drew.heap.size):=J (by simp;omega);have qu:Hid (ndC (EB k first z ns.length t)=[.int .i64 k,.int .i64 0,.int .i64 0,.int .i64 z,.string s]):=J (by rw[iS.o];(try rw[aH]);simp only[ndC,yy.o]);rw[cA]at dc;have HZ:=J dE;have q0:=oI.five;obtain⟨⟨k0,k1,k2,k3,k4⟩,⟨f1,f2,f3,f4⟩,oz⟩:=aj.o.five';rw[aH]at k3;clear hne hx0 oI dE aH;go_upto_region 6 with fail;rw[<-HZ.o];clear HZ
  go_region_law (refine step_append_lies _ rfl (.tmp 41) (.tmp 43) 32 rfl (g+1) 95 i0 _ 5 48 Tryz.underlying32 hi aD hz1 bu rfl (by decide) _ n (BR ns) rfl ec.o ⟨w.heap.size+1,0,none⟩ 1 1 [.int .i64 k,.int .i64 0,.int .i64 0,.int .i64 z,.string s] rfl rfl dc.o (by simp[Value.oneCell']) (by decide) ag.o ba.o be.o _ rfl ?_;intro g' c' w' al aC hat hlt;have qB:=J al;have HM:=J (jY.o w' aC);have gy:=J hat;clear al aC hat;obtain⟨⟨m0,m1,m2,m3,m4⟩,⟨n1,n2,n3,n4⟩,sK⟩:=HM.o.1.five')
  all_goals
   have eG:=HM.o.1.set_ 3 (.slice (some ⟨g',0,none⟩) (n+1) c');have ie:=J ((Below.mono bP.o (qaK eC)).trans (HM.o.2.1.setCell (p:=⟨g,3,none⟩) (qab _) (.slice (some ⟨g',0,none⟩) (n+1) c')));have HF:Hid (RdR g (w'.setCell ⟨g,3,none⟩ (.slice (some ⟨g',0,none⟩) (n+1) c')) ts a bad (ns++[EB k first z ns.length t]) lg tv (.slice (some ⟨g',0,none⟩) (n+1) c')):=J ⟨eG,by
     have h3:=qB.o;unfold AB;rw[Dc,EM,qu.o,qac,qal,<-HN.o];exact Ah h3 (fun k hk _=>Below.heap_setCell _ _ _ k (by show k≠g;omega)),HT.o.below ie.o,by rw[qac,qal,<-HN.o];exact hf,cH,fI⟩
   have rx:Hid (KR g (.slice A n c) (.slice (some ⟨g',0,none⟩) (n+1) c') w (w'.setCell ⟨g,3,none⟩ (.slice (some ⟨g',0,none⟩) (n+1) c'))):=J ⟨ie.o.os,ie.o.tape,ie.o.output,ie.o.size,fun q h1 h2 h3=>(Below.heap_setCell _ _ _ q h2).trans (HM.o.2.2 q h1 h3),fun j hj=>by
     simp only[Value.ownBlock,qar]at hj;subst hj;rcases gy.o with h4|h4
     ·exact .inl h4
     ·right
      rw[h4];simp;omega⟩
   clear eG;go_wp2_with fail;go_end0;rw[HN.o]at rx HF ⊢;exact⟨_,rfl,rx.o,HF.o⟩
 ·have iS:Hid (EB k first z ns.length t=⟨k,(ns.length:Int)-1,0,z,t⟩):=J (by unfold EB;rw[if_pos aJ]);rw[aJ]at aS;clear aJ key;go_enter Tryz.func130,Tryz.ntmps130;go_wp2_with fail;refine(aS.o _).mono ?_
  rintro e w2 ⟨rfl,rfl⟩;go_upto_region 6 with fail;obtain⟨w0,dE⟩:∃w0,w0=w.alloc (.cells #[.int .i64 k,.int .i64 ((n:Int)-1),.int .i64 0,.int .i64 z,.string s] 95):=⟨_,rfl⟩;have hx0:Ext w w0:=by rw[dE];exact((Ext.refl w).alloc _)
  have oI:Blk w0 w.heap.size 95 #[.int .i64 k,.int .i64 ((n:Int)-1),.int .i64 0,.int .i64 z,.string s]:=by rw[dE];exact(Blk.new w _ _)
  have cA:w0.heap.size=w.heap.size+1:=by rw[dE];simp
  have aj:=J (HB.o.ext hx0);have i9:=J (HR.o.ext hx0);have bP:=J hx0;have aH:ns.length=n:=HN.o.symm;have rp:Hid (w.ownsRow (g+1) 95 5 (.slice A n c) n (BR ns)):=J (by have h:=HR.o;unfold AB at h;rw[aH]at h;exact h);have hne:∀q,(Value.slice A n c).ownBlock=some q->g≠q:=fun q hq=>by have:=AQ rp.o q hq;omega
  have jY:Hid (∀w':World,(w0.alloc (.cells #[.int .i64 k,.int .i64 ((n:Int)-1),.int .i64 0,.int .i64 z,.string s] 95)).drew.grownBy w' (Value.slice A n c).ownBlock->Blk w' g 120 #[tv,.int .i64 (a:Int),.bool bad,.slice A n c,.bool lg]/\(Below g w0 w'/\∀q,q<w.heap.size->(Value.slice A n c).ownBlock≠some q->w'.heap[q]? =w.heap[q]?)):=J (fun w' aC=>by
   refine⟨?_,?_⟩
   ·have h1:=aC.block g (show g<(w0.alloc (.cells #[.int .i64 k,.int .i64 ((n:Int)-1),.int .i64 0,.int .i64 z,.string s] 95)).drew.heap.size by simp;omega) (fun e=>hne g e.symm rfl);have h2:=(aj.o.alloc (.cells #[.int .i64 k,.int .i64 ((n:Int)-1),.int .i64 0,.int .i64 z,.string s] 95)).drew;rw[aH]at h2;exact h1.trans h2
   ·refine⟨(((Below.refl g w0).alloc (by omega) _).drew).grown aC (by simp;omega) (fun q hq=>by have:=AQ rp.o q hq;omega),fun q hq hne2=> ?_⟩;have h1:=aC.block q (show q<(w0.alloc (.cells #[.int .i64 k,.int .i64 ((n:Int)-1),.int .i64 0,.int .i64 z,.string s] 95)).drew.heap.size by simp;omega) (fun e=>hne2 e.symm);rw[h1];exact(Below.heap_alloc w0 _ q (by omega)).trans (hx0.block q hq))
  have dc:Hid (∀(j:Nat) (u:Value),[Value.int .i64 k,Value.int .i64 ((n:Int)-1),Value.int .i64 0,Value.int .i64 z,Value.string s][j]? =some u->(w0.alloc (.cells #[.int .i64 k,.int .i64 ((n:Int)-1),.int .i64 0,.int .i64 z,.string s] 95)).drew.cell? ((⟨w0.heap.size,0,none⟩:Addr).add j)=some u):=J (Cd w0 95 [.int .i64 k,.int .i64 ((n:Int)-1),.int .i64 0,.int .i64 z,.string s]);have ec:Hid ((w0.alloc (.cells #[.int .i64 k,.int .i64 ((n:Int)-1),.int .i64 0,.int .i64 z,.string s] 95)).drew.ownsRow (g+1) 95 5 (.slice A n c) n (BR ns)):=J (by
   have h:=Ah i9.o (w':=(w0.alloc (.cells #[.int .i64 k,.int .i64 ((n:Int)-1),.int .i64 0,.int .i64 z,.string s] 95)).drew) (fun k _ hk=>Below.heap_alloc w0 _ k hk);rw[aH]at h;exact h)
  have ag:Hid (n+1<=maxLen):=J (by unfold maxLen;omega);have ba:Hid ((n+1)*48<=140737488355328):=J (by omega);have be:Hid (g+1<=(w0.alloc (.cells #[.int .i64 k,.int .i64 ((n:Int)-1),.int .i64 0,.int .i64 z,.string s] 95)).drew.heap.size):=J (by simp;omega);have qu:Hid (ndC (EB k first z ns.length t)=[.int .i64 k,.int .i64 ((n:Int)-1),.int .i64 0,.int .i64 z,.string s]):=J (by rw[iS.o];(try rw[aH]);simp only[ndC,yy.o]);rw[cA]at dc;have HZ:=J dE;have q0:=oI.five;obtain⟨⟨k0,k1,k2,k3,k4⟩,⟨f1,f2,f3,f4⟩,oz⟩:=aj.o.five';rw[aH]at k3;clear hne hx0 oI dE aH;go_upto_region 6 with fail;rw[<-HZ.o];clear HZ
  go_region_law (refine step_append_lies _ rfl (.tmp 41) (.tmp 43) 32 rfl (g+1) 95 i0 _ 5 48 Tryz.underlying32 hi aD hz1 bu rfl (by decide) _ n (BR ns) rfl ec.o ⟨w.heap.size+1,0,none⟩ 1 1 [.int .i64 k,.int .i64 ((n:Int)-1),.int .i64 0,.int .i64 z,.string s] rfl rfl dc.o (by simp[Value.oneCell']) (by decide) ag.o ba.o be.o _ rfl ?_;intro g' c' w' al aC hat hlt;have qB:=J al;have HM:=J (jY.o w' aC);have gy:=J hat;clear al aC hat;obtain⟨⟨m0,m1,m2,m3,m4⟩,⟨n1,n2,n3,n4⟩,sK⟩:=HM.o.1.five')
  all_goals
   have eG:=HM.o.1.set_ 3 (.slice (some ⟨g',0,none⟩) (n+1) c');have ie:=J ((Below.mono bP.o (qaK eC)).trans (HM.o.2.1.setCell (p:=⟨g,3,none⟩) (qab _) (.slice (some ⟨g',0,none⟩) (n+1) c')));have HF:Hid (RdR g (w'.setCell ⟨g,3,none⟩ (.slice (some ⟨g',0,none⟩) (n+1) c')) ts a bad (ns++[EB k first z ns.length t]) lg tv (.slice (some ⟨g',0,none⟩) (n+1) c')):=J ⟨eG,by
     have h3:=qB.o;unfold AB;rw[Dc,EM,qu.o,qac,qal,<-HN.o];exact Ah h3 (fun k hk _=>Below.heap_setCell _ _ _ k (by show k≠g;omega)),HT.o.below ie.o,by rw[qac,qal,<-HN.o];exact hf,cH,fI⟩
   have rx:Hid (KR g (.slice A n c) (.slice (some ⟨g',0,none⟩) (n+1) c') w (w'.setCell ⟨g,3,none⟩ (.slice (some ⟨g',0,none⟩) (n+1) c'))):=J ⟨ie.o.os,ie.o.tape,ie.o.output,ie.o.size,fun q h1 h2 h3=>(Below.heap_setCell _ _ _ q h2).trans (HM.o.2.2 q h1 h3),fun j hj=>by
     simp only[Value.ownBlock,qar]at hj;subst hj;rcases gy.o with h4|h4
     ·exact .inl h4
     ·right
      rw[h4];simp;omega⟩
   clear eG;go_wp2_with fail;go_end0;rw[HN.o]at rx HF ⊢;exact⟨_,rfl,rx.o,HF.o⟩
 ·have iS:Hid (EB k first z ns.length t=⟨k,first,(ns.length:Int)-1,z,t⟩):=J (by unfold EB;rw[if_neg (by rw[aJ];decide),if_pos aJ]);rw[aJ]at aS;clear aJ key;go_enter Tryz.func130,Tryz.ntmps130;go_wp2_with fail;refine(aS.o _).mono ?_
  rintro e w2 ⟨rfl,rfl⟩;go_upto_region 5 with fail;go_region
  all_goals go_upto_region 6 with fail
  obtain⟨w0,dE⟩:∃w0,w0=(w.alloc (.cells #[.int .i64 k,.int .i64 first,.int .i64 ((n:Int)-1),.int .i64 z,.string s] 95)).drew:=⟨_,rfl⟩;have hx0:Ext w w0:=by rw[dE];exact((Ext.refl w).alloc _).drew
  have oI:Blk w0 w.heap.size 95 #[.int .i64 k,.int .i64 first,.int .i64 ((n:Int)-1),.int .i64 z,.string s]:=by rw[dE];exact(Blk.new w _ _).drew
  have cA:w0.heap.size=w.heap.size+1:=by rw[dE];simp
  have aj:=J (HB.o.ext hx0);have i9:=J (HR.o.ext hx0);have bP:=J hx0;have aH:ns.length=n:=HN.o.symm;have rp:Hid (w.ownsRow (g+1) 95 5 (.slice A n c) n (BR ns)):=J (by have h:=HR.o;unfold AB at h;rw[aH]at h;exact h);have hne:∀q,(Value.slice A n c).ownBlock=some q->g≠q:=fun q hq=>by have:=AQ rp.o q hq;omega
  have jY:Hid (∀w':World,(w0.alloc (.cells #[.int .i64 k,.int .i64 first,.int .i64 ((n:Int)-1),.int .i64 z,.string s] 95)).drew.grownBy w' (Value.slice A n c).ownBlock->Blk w' g 120 #[tv,.int .i64 (a:Int),.bool bad,.slice A n c,.bool lg]/\(Below g w0 w'/\∀q,q<w.heap.size->(Value.slice A n c).ownBlock≠some q->w'.heap[q]? =w.heap[q]?)):=J (fun w' aC=>by
   refine⟨?_,?_⟩
   ·have h1:=aC.block g (show g<(w0.alloc (.cells #[.int .i64 k,.int .i64 first,.int .i64 ((n:Int)-1),.int .i64 z,.string s] 95)).drew.heap.size by simp;omega) (fun e=>hne g e.symm rfl);have h2:=(aj.o.alloc (.cells #[.int .i64 k,.int .i64 first,.int .i64 ((n:Int)-1),.int .i64 z,.string s] 95)).drew;rw[aH]at h2;exact h1.trans h2
   ·refine⟨(((Below.refl g w0).alloc (by omega) _).drew).grown aC (by simp;omega) (fun q hq=>by have:=AQ rp.o q hq;omega),fun q hq hne2=> ?_⟩;have h1:=aC.block q (show q<(w0.alloc (.cells #[.int .i64 k,.int .i64 first,.int .i64 ((n:Int)-1),.int .i64 z,.string s] 95)).drew.heap.size by simp;omega) (fun e=>hne2 e.symm);rw[h1];exact(Below.heap_alloc w0 _ q (by omega)).trans (hx0.block q hq))
  have dc:Hid (∀(j:Nat) (u:Value),[Value.int .i64 k,Value.int .i64 first,Value.int .i64 ((n:Int)-1),Value.int .i64 z,Value.string s][j]? =some u->(w0.alloc (.cells #[.int .i64 k,.int .i64 first,.int .i64 ((n:Int)-1),.int .i64 z,.string s] 95)).drew.cell? ((⟨w0.heap.size,0,none⟩:Addr).add j)=some u):=J (Cd w0 95 [.int .i64 k,.int .i64 first,.int .i64 ((n:Int)-1),.int .i64 z,.string s]);have ec:Hid ((w0.alloc (.cells #[.int .i64 k,.int .i64 first,.int .i64 ((n:Int)-1),.int .i64 z,.string s] 95)).drew.ownsRow (g+1) 95 5 (.slice A n c) n (BR ns)):=J (by
   have h:=Ah i9.o (w':=(w0.alloc (.cells #[.int .i64 k,.int .i64 first,.int .i64 ((n:Int)-1),.int .i64 z,.string s] 95)).drew) (fun k _ hk=>Below.heap_alloc w0 _ k hk);rw[aH]at h;exact h)
  have ag:Hid (n+1<=maxLen):=J (by unfold maxLen;omega);have ba:Hid ((n+1)*48<=140737488355328):=J (by omega);have be:Hid (g+1<=(w0.alloc (.cells #[.int .i64 k,.int .i64 first,.int .i64 ((n:Int)-1),.int .i64 z,.string s] 95)).drew.heap.size):=J (by simp;omega);have qu:Hid (ndC (EB k first z ns.length t)=[.int .i64 k,.int .i64 first,.int .i64 ((n:Int)-1),.int .i64 z,.string s]):=J (by rw[iS.o];(try rw[aH]);simp only[ndC,yy.o]);rw[cA]at dc;have HZ:=J dE;have q0:=oI.five;obtain⟨⟨k0,k1,k2,k3,k4⟩,⟨f1,f2,f3,f4⟩,oz⟩:=aj.o.five';rw[aH]at k3;clear hne hx0 oI dE aH;go_upto_region 6 with fail;rw[<-HZ.o];clear HZ
  go_region_law (refine step_append_lies _ rfl (.tmp 41) (.tmp 43) 32 rfl (g+1) 95 i0 _ 5 48 Tryz.underlying32 hi aD hz1 bu rfl (by decide) _ n (BR ns) rfl ec.o ⟨w.heap.size+1,0,none⟩ 1 1 [.int .i64 k,.int .i64 first,.int .i64 ((n:Int)-1),.int .i64 z,.string s] rfl rfl dc.o (by simp[Value.oneCell']) (by decide) ag.o ba.o be.o _ rfl ?_;intro g' c' w' al aC hat hlt;have qB:=J al;have HM:=J (jY.o w' aC);have gy:=J hat;clear al aC hat;obtain⟨⟨m0,m1,m2,m3,m4⟩,⟨n1,n2,n3,n4⟩,sK⟩:=HM.o.1.five')
  all_goals
   have eG:=HM.o.1.set_ 3 (.slice (some ⟨g',0,none⟩) (n+1) c');have ie:=J ((Below.mono bP.o (qaK eC)).trans (HM.o.2.1.setCell (p:=⟨g,3,none⟩) (qab _) (.slice (some ⟨g',0,none⟩) (n+1) c')));have HF:Hid (RdR g (w'.setCell ⟨g,3,none⟩ (.slice (some ⟨g',0,none⟩) (n+1) c')) ts a bad (ns++[EB k first z ns.length t]) lg tv (.slice (some ⟨g',0,none⟩) (n+1) c')):=J ⟨eG,by
     have h3:=qB.o;unfold AB;rw[Dc,EM,qu.o,qac,qal,<-HN.o];exact Ah h3 (fun k hk _=>Below.heap_setCell _ _ _ k (by show k≠g;omega)),HT.o.below ie.o,by rw[qac,qal,<-HN.o];exact hf,cH,fI⟩
   have rx:Hid (KR g (.slice A n c) (.slice (some ⟨g',0,none⟩) (n+1) c') w (w'.setCell ⟨g,3,none⟩ (.slice (some ⟨g',0,none⟩) (n+1) c'))):=J ⟨ie.o.os,ie.o.tape,ie.o.output,ie.o.size,fun q h1 h2 h3=>(Below.heap_setCell _ _ _ q h2).trans (HM.o.2.2 q h1 h3),fun j hj=>by
     simp only[Value.ownBlock,qar]at hj;subst hj;rcases gy.o with h4|h4
     ·exact .inl h4
     ·right
      rw[h4];simp;omega⟩
   clear eG;go_wp2_with fail;go_end0;rw[HN.o]at rx HF ⊢;exact⟨_,rfl,rx.o,HF.o⟩
def S5(g:Nat)(ts:List Tok)(tv:Value)(F:FuncId):Prop:=∀w a ns lg nv,RdR g w ts a true ns lg tv nv->Calls Tryz.prog F #[.pointer (some ⟨g,0,none⟩)] w fun e w'=>e= .returned (.tuple #[])/\KR g nv nv w w'/\RdR g w' ts a true ns lg tv nv
theorem PX(g:Nat)(ts:List Tok)(tv:Value):S5 g ts tv 240:=by
 intro w a ns lg nv h;have H:=J h;obtain⟨⟨k0,k1,k2,k3,k4⟩,⟨f1,f2,f3,f4⟩,hg⟩:=h.blk.five';clear h;go_enter Tryz.func240,Tryz.ntmps240;go_wp2_with fail;go_quiet (fail);go_wp2_with fail
 (try simp only[Exit.inBlock,Exit.then])
 refine bodyPost_ret (results_none rfl _ _ _) rfl ?_
 have h3:=(H.o.keep ((Ext.refl w).drewN nq)).fail;exact⟨rfl,(KR.of_ext ((Ext.refl w).drewN nq)).trans h3.2,h3.1⟩
theorem NN(g:Nat)(ts:List Tok)(tv:Value):S5 g ts tv 206:=by
 intro w a ns lg nv h;have iU:=J (fun W a ns lg nv h=>CT g W ts a true ns lg tv nv [94] h);rw[show str [94]= .string ⟨#[94]⟩ from rfl]at iU;simp only[qbd,qaV]at iU;have HE:Hid (KR g nv nv w w/\RdR g w ts a true ns lg tv nv):=J ⟨KR.of_ext (Ext.refl w),h⟩;clear h;go_enter Tryz.func206,Tryz.ntmps206;go_wp2_with fail;refine(PX g ts tv _ _ _ _ _ HE.o.2).mono ?_
 rintro e w1 ⟨rfl,hk,hr⟩;have HE:=J (And.intro (HE.o.1.trans hk) hr);clear hk hr;go_wp2_with fail;refine(iU.o _ _ _ _ _ HE.o.2).mono ?_
 rintro e w2 ⟨rfl,hd⟩;have HE:=J (And.intro (HE.o.1.trans (KR.of_ext hd.ext)) (HE.o.2.keep hd.ext));clear hd;go_wp2_with fail
 (try simp only[Exit.inBlock,Exit.then])
 first
  |refine bodyPost_ret (results_none rfl _ _ _) rfl ?_
  |refine bodyPost_end (results_none rfl _ _ _) rfl ?_
 exact⟨rfl,HE.o.1,HE.o.2⟩
theorem NQ(g:Nat)(ts:List Tok)(tv:Value):S5 g ts tv 172:=by
 intro w a ns lg nv h;have iU:=J (fun W a ns lg nv h=>CT g W ts a true ns lg tv nv [45] h);rw[show str [45]= .string ⟨#[45]⟩ from rfl]at iU;simp only[qbd,qaV]at iU;have HE:Hid (KR g nv nv w w/\RdR g w ts a true ns lg tv nv):=J ⟨KR.of_ext (Ext.refl w),h⟩;clear h;go_enter Tryz.func172,Tryz.ntmps172;go_wp2_with fail;refine(iU.o _ _ _ _ _ HE.o.2).mono ?_
 rintro e w1 ⟨rfl,hd⟩;have HE:=J (And.intro (HE.o.1.trans (KR.of_ext hd.ext)) (HE.o.2.keep hd.ext));clear hd;go_wp2_with fail;refine(NN g ts tv _ _ _ _ _ HE.o.2).mono ?_
 rintro e w2 ⟨rfl,hk,hr⟩;have HE:=J (And.intro (HE.o.1.trans hk) hr);clear hk hr;go_wp2_with fail
 (try simp only[Exit.inBlock,Exit.then])
 first
  |refine bodyPost_ret (results_none rfl _ _ _) rfl ?_
  |refine bodyPost_end (results_none rfl _ _ _) rfl ?_
 exact⟨rfl,HE.o.1,HE.o.2⟩
theorem Li(g:Nat)(ts:List Tok)(tv:Value):S5 g ts tv 128:=by
 intro w a ns lg nv h;have iU:=J (fun W a ns lg nv h=>CT g W ts a true ns lg tv nv [42] h);rw[show str [42]= .string ⟨#[42]⟩ from rfl]at iU;simp only[qbd,qaV]at iU;have ic:=J (fun W a ns lg nv h=>CT g W ts a true ns lg tv nv [47] h);rw[show str [47]= .string ⟨#[47]⟩ from rfl]at ic;simp only[qbd,qaV]at ic;have HE:Hid (KR g nv nv w w/\RdR g w ts a true ns lg tv nv):=J ⟨KR.of_ext (Ext.refl w),h⟩;clear h;go_enter Tryz.func128,Tryz.ntmps128;go_wp2_with fail;refine(NQ g ts tv _ _ _ _ _ HE.o.2).mono ?_
 rintro e w1 ⟨rfl,hk,hr⟩;have HE:=J (And.intro (HE.o.1.trans hk) hr);clear hk hr;go_wp2_with fail;go_loopw [] (fun wr=>KR g nv nv w wr/\RdR g wr ts a true ns lg tv nv) (fun _=>0)
 case atStart=>exact HE.o
 case round=>
  have HE:=J hrel;clear hrel;go_wp2_with fail;refine(iU.o _ _ _ _ _ HE.o.2).mono ?_
  rintro e w2 ⟨rfl,hd⟩;have HE:=J (And.intro (HE.o.1.trans (KR.of_ext hd.ext)) (HE.o.2.keep hd.ext));clear hd;go_wp2_with fail;refine(ic.o _ _ _ _ _ HE.o.2).mono ?_
  rintro e w3 ⟨rfl,hd⟩;have HE:=J (And.intro (HE.o.1.trans (KR.of_ext hd.ext)) (HE.o.2.keep hd.ext));clear hd;go_wp2_with fail
  (try simp only[Exit.inBlock,Exit.then])
  first
   |refine bodyPost_ret (results_none rfl _ _ _) rfl ?_
   |refine bodyPost_end (results_none rfl _ _ _) rfl ?_
  exact⟨rfl,HE.o.1,HE.o.2⟩
theorem Ru(g:Nat)(ts:List Tok)(tv:Value):S5 g ts tv 66:=by
 intro w a ns lg nv h;have iU:=J (fun W a ns lg nv h=>CT g W ts a true ns lg tv nv [43] h);rw[show str [43]= .string ⟨#[43]⟩ from rfl]at iU;simp only[qbd,qaV]at iU;have ic:=J (fun W a ns lg nv h=>CT g W ts a true ns lg tv nv [45] h);rw[show str [45]= .string ⟨#[45]⟩ from rfl]at ic;simp only[qbd,qaV]at ic;have HE:Hid (KR g nv nv w w/\RdR g w ts a true ns lg tv nv):=J ⟨KR.of_ext (Ext.refl w),h⟩;clear h;go_enter Tryz.func66,Tryz.ntmps66;go_wp2_with fail;refine(Li g ts tv _ _ _ _ _ HE.o.2).mono ?_
 rintro e w1 ⟨rfl,hk,hr⟩;have HE:=J (And.intro (HE.o.1.trans hk) hr);clear hk hr;go_wp2_with fail;go_loopw [] (fun wr=>KR g nv nv w wr/\RdR g wr ts a true ns lg tv nv) (fun _=>0)
 case atStart=>exact HE.o
 case round=>
  have HE:=J hrel;clear hrel;go_wp2_with fail;refine(iU.o _ _ _ _ _ HE.o.2).mono ?_
  rintro e w2 ⟨rfl,hd⟩;have HE:=J (And.intro (HE.o.1.trans (KR.of_ext hd.ext)) (HE.o.2.keep hd.ext));clear hd;go_wp2_with fail;refine(ic.o _ _ _ _ _ HE.o.2).mono ?_
  rintro e w3 ⟨rfl,hd⟩;have HE:=J (And.intro (HE.o.1.trans (KR.of_ext hd.ext)) (HE.o.2.keep hd.ext));clear hd;go_wp2_with fail
  (try simp only[Exit.inBlock,Exit.then])
  first
   |refine bodyPost_ret (results_none rfl _ _ _) rfl ?_
   |refine bodyPost_end (results_none rfl _ _ _) rfl ?_
  exact⟨rfl,HE.o.1,HE.o.2⟩
def Ar(g:Nat)(ts:List Tok)(tv:Value)(ns:List Nd)(nv:Value)(lg:Bool)(r:Option Ex × Nat)(w:World)(e:Ending)(w':World):Prop:=
 e= .returned (.tuple #[])/\∃nv',KR g nv nv' w w'/\match r with
  |(some x,b)=>RdR g w' ts b false (ns++Ak ns.length x) (lg || x.big) tv nv'
  |(none,b)=>∃ns' lg',RdR g w' ts b true ns' lg' tv nv'
section
variable {g:Nat} {ts:List Tok} {tv nv nv':Value} {ns:List Nd} {lg:Bool} {r:Option Ex × Nat} {w w':World} {e:Ending} {x:Ex} {b:Nat}
theorem Ar.some_(h:Ar g ts tv ns nv lg r w e w')(hr:r=(some x,b)):e= .returned (.tuple #[])/\∃nv',RdR g w' ts b false (ns++Ak ns.length x) (lg || x.big) tv nv'/\KR g nv nv' w w':=by
 subst hr;obtain⟨h1,nv',h2,h3⟩:=h;exact⟨h1,nv',h3,h2⟩
theorem Ar.none_(h:Ar g ts tv ns nv lg r w e w')(hr:r=(none,b)):e= .returned (.tuple #[])/\∃nv' ns' lg',RdR g w' ts b true ns' lg' tv nv'/\KR g nv nv' w w':=by
 subst hr;obtain⟨h1,nv',h2,ns',lg',h3⟩:=h;exact⟨h1,nv',ns',lg',h3,h2⟩
theorem Ar.mkN{ns':List Nd}{lg':Bool}(hr:r=(none,b))(hk:KR g nv nv' w w')(h:RdR g w' ts b true ns' lg' tv nv'):Ar g ts tv ns nv lg r w (.returned (.tuple #[])) w':=by
 subst hr;exact⟨rfl,nv',hk,ns',lg',h⟩
theorem Ar.mkS(hr:r=(some x,b))(hk:KR g nv nv' w w')(h:RdR g w' ts b false (ns++Ak ns.length x) (lg || x.big) tv nv'):Ar g ts tv ns nv lg r w (.returned (.tuple #[])) w':=by
 subst hr;exact⟨rfl,nv',hk,h⟩
theorem KR.kept1{n1 n2:Value}{q:Nat}{t:TypeId}{cs:Array Value}(hk:KR g n1 n2 w w')(hb:Blk w q t cs)(h1:q≠g)(h2:n1.ownBlock≠some q):Blk w' q t cs/\n2.ownBlock≠some q:=by
 refine⟨hk.blk hb h1 h2,fun e=> ?_⟩;have:=hb.lt;rcases hk.move _ e with h|h
 ·exact h2 h
 ·omega
theorem RdR.as(h:RdR g w ts b false ns lg tv nv){lg':Bool}(hl:lg=lg'){ns':List Nd}(hn:ns=ns'):RdR g w ts b false ns' lg' tv nv:=by subst hl;subst hn;exact h
end
theorem P9(p:Nat->Option Ex × Nat){ts:List Tok}{a:Nat}(hlt2:a<ts.length):C1 p ts a=(if ts[a].kind=3 then F1 p ts a
   else if ts[a].kind=1 then (some (.leaf 1 ts[a].text),a+1)
   else if BD ts[a].text≠0 then (match F1 p ts (a+1) with|(none,b)=>(none,b)|(some x,b)=>(some (.un (BD ts[a].text) 0 x),b))
   else if ts[a].text=[112,105] then (some (.leaf 3 []),a+1)
   else if ts[a].text=[101] then (some (.leaf 4 []),a+1)
   else (some (.leaf 2 ts[a].text),a+1)):=by
 have hs:isS ts a [40]=((ts[a].kind == 3) && (ts[a].text == [40])):=by
  unfold isS;rw[qad hlt2]
 unfold C1;rw[qad hlt2];simp only;by_cases h3:ts[a].kind=3
 ·rw[if_pos h3,if_pos h3];unfold F1;rw[hs,h3];by_cases h4:ts[a].text=[40]
  ·rw[if_pos h4,h4];rfl
  ·rw[if_neg h4,if_neg (by simp[h4])]
 ·rw[if_neg h3,if_neg h3];split
  ·rfl
  ·split
   ·unfold F1;by_cases h5:isS ts (a+1) [40]=true
    ·rw[if_pos h5,if_pos h5];rcases p (a+1+1) with ⟨_|x,b⟩
     ·rfl
     ·simp only;by_cases h6:isS ts b [41]=true
      ·rw[if_pos h6,if_pos h6]
      ·rw[if_neg h6,if_neg h6]
    ·rw[if_neg h5,if_neg h5]
   ·rfl
theorem Mt{B sz n:Nat}{e:TypeId}{w:World}{v:Value}{xs:List Value}(h:w.ownsRow B e sz v n xs)(g:Nat)(hg:v.ownBlock=some g):g<w.heap.size:=by
 rcases h.2 with ⟨rfl,h2⟩|⟨g',cap,cur,rfl,hb,hh,_⟩
 ·cases hg
 ·simp only[Value.ownBlock,qar]at hg;subst hg;rcases qah g' w.heap.size with h|h
  ·exact h
  ·rw[qbg h]at hh;cases hh
def SZ(g:Nat)(ts:List Tok)(tv:Value)(f a:Nat):Prop:=
 ∀w ns lg nv,RdR g w ts a false ns lg tv nv->Calls Tryz.prog 66 #[.pointer (some ⟨g,0,none⟩)] w (Ar g ts tv ns nv lg (Bk ts f a) w)
theorem On(c:UInt8)(h:F4 c.toNat=true):BD [c]=0/\([c]:List UInt8)≠[112,105]/\([c]:List UInt8)≠[101]:=by
 have hall:∀n:Fin 256,F4 n.val=true->BD [UInt8.ofNat n.val]=0/\n.val≠101:=by decide+kernel
 have h1:=hall ⟨c.toNat,UInt8.toNat_lt c⟩ h;rw[UInt8.ofNat_toNat]at h1;refine⟨h1.1,by simp,fun e=>h1.2 ?_⟩;injection e with e _
 rw[e];rfl
theorem PY(g:Nat)(ts:List Tok)(tv:Value)(f a:Nat)(jP:∀t∈ts,CH t)(hs:∀a',a<a'->SZ g ts tv f a')(w:World)(ns:List Nd)(lg:Bool)(nv:Value)(h:RdR g w ts a false ns lg tv nv):
  Calls Tryz.prog 240 #[.pointer (some ⟨g,0,none⟩)] w (Ar g ts tv ns nv lg (C1 (Bk ts f) ts a) w):=by
 have H:=J h;have HS:=J hs;have bc:=h.row;obtain⟨A,c0,rfl,aa⟩:=h.tok;have al:nv.ownBlock≠some w.heap.size:=fun e=>by have:=(Mt h.row _ e);omega
 have WM:=J al;obtain⟨A2,c2,rfl⟩:=bc.shape;have cH:=h.le;have fI:=h.max;have dz:=h.few;obtain⟨⟨k0,k1,k2,k3,k4⟩,⟨f1,f2,f3,f4⟩,hg⟩:=h.blk.five';clear h hs bc al;obtain⟨n,dI⟩:∃n,n=ts.length:=⟨_,rfl⟩;rw[<-dI]at k0 cH fI;have lP:=J dI;clear dI;rcases qah a n with hlt|fC
 ·have hlt2:a<ts.length:=by rw[<-lP.o];exact hlt
  obtain⟨b,rfl,hbg,_,hc⟩:=aa (by omega);obtain⟨q0,q1,q2⟩:=hc a hlt2;have eF:ts[a].kind=1\/ts[a].kind=2\/(ts[a].kind=3/\∃c:UInt8,ts[a].text=[c]/\F4 c.toNat=true):=by
   rcases jP ts[a] (qaw hlt2) with ⟨h,_⟩|⟨h,_⟩|⟨h,c,h2,h3⟩
   ·exact .inl h
   ·exact .inr (.inl h)
   ·exact .inr (.inr ⟨h,c,h2,h3⟩)
  have hI:∀p,C1 p ts a=(if ts[a].kind=3 then F1 p ts a
   else if ts[a].kind=1 then (some (.leaf 1 ts[a].text),a+1)
   else if BD ts[a].text≠0 then (match F1 p ts (a+1) with|(none,b)=>(none,b)|(some x,b)=>(some (.un (BD ts[a].text) 0 x),b))
   else if ts[a].text=[112,105] then (some (.leaf 3 []),a+1)
   else if ts[a].text=[101] then (some (.leaf 4 []),a+1)
   else (some (.leaf 2 ts[a].text),a+1)):=fun p=>P9 p hlt2
  have HP:=J (hI (Bk ts f));have sI:isS ts a [40]=((ts[a].kind == 3) && (ts[a].text == [40])):=by
   unfold isS;rw[qad hlt2]
  clear hI aa hc jP;generalize ts[a].kind=tk at *;generalize ts[a].text=tx at *;generalize ts[a].at_=ta at *;generalize hR:C1 (Bk ts f) ts a=R at *;clear hR;have z1:decide (n<=a)=false:=decide_eq_false (by omega);have z2:¬(n:Int)<=(a:Int):=by omega
  have aT:IntKind.i64.wrap ((a:Int)+1)=(a:Int)+1:=IntWalk.i64_in _ (by omega);go_enter Tryz.func240,Tryz.ntmps240;go_wp2_with fail;go_quiet (fail);obtain⟨w1,rW⟩:∃w1,w1=w.drewN nq:=⟨_,rfl⟩;rw[<-rW];have hd:Dr w w1:=by rw[rW];exact(Dr.refl w).drewN _
  have lz:w1.heap.size=w.heap.size:=by rw[hd.heap]
  have ya:g<w1.heap.size:=by omega
  rw[<-hd.cell]at k0 k1 k2 k3 k4 q0 q1 q2;have gP:=J hd.ext;have xt:Hid ((Value.slice A2 ns.length c2).ownBlock≠some w1.heap.size):=J (by rw[lz];exact WM.o);have mp:b<w1.heap.size:=by omega
  clear rW hd lz f1 f2 f3 f4;go_upto_region 2 with fail;go_region;obtain⟨w2,bQ⟩:∃w2,w2=(w1.alloc (.cells #[.int .i64 (tk:Int),.int .i64 (ta:Int),str tx] 122)).drew:=⟨_,rfl⟩;rw[<-bQ];have ah:Ext w1 w2:=by rw[bQ];exact((Ext.refl w1).alloc _).drew
  have hb2:Blk w2 w1.heap.size 122 #[.int .i64 (tk:Int),.int .i64 (ta:Int),str tx]:=by rw[bQ];exact(Blk.new w1 _ _).drew
  have aR:=J (gP.o.trans ah);have hJ:=J (H.o.keep (gP.o.trans ah));have ba:=J hb2;have j0:=hb2.three';obtain⟨⟨k0,k1,k2,k3,k4⟩,⟨f1,f2,f3,f4⟩,sP⟩:=hJ.o.blk.five';clear bQ ah hb2 q0 q1 q2 z1 z2 mp;generalize w1.heap.size=gt at *;have mz:=J ya;have qa:∀q:Nat,(lg || (Ex.leaf q []).big)=lg:=fun q=>by rw[Ex.big,qbv]
  clear qa;by_cases h1:tk=1
  ·subst h1;have ll:Hid (R=(some (.leaf 1 tx),a+1)):=J (by rw[HP.o,if_neg (by decide),if_pos rfl]);clear HP HS sI eF;go_upto_region 6 with fail;have hst:=hJ.o.stepR hlt2;obtain⟨w3,fQ⟩:∃w3,w3=w2.setCell ⟨g,1,none⟩ (.int .i64 ((a:Int)+1)):=⟨_,rfl⟩;rw[<-fQ]at hst ⊢;have eI:Blk w3 gt 122 #[.int .i64 ((1:Nat):Int),.int .i64 (ta:Int),str tx]:=by
    rw[fQ];exact ba.o.far (p:=⟨g,1,none⟩) (by show gt≠g;have:=mz.o;omega) _
   have be:=J eI;have eX:=J hst.1;have eJ:=J ((KR.of_ext aR.o).trans hst.2);have j0:=eI.three';clear hst fQ eI k0 k1 k2 k3 k4 f1 f2 f3 f4;have bG:=J (Ce g w3 ts (a+1) false ns lg _ _ 1 0 0 tx eX.o (by omega));go_wp2_with fail;refine bG.o.mono ?_
   rintro e w4 ⟨nv2,rfl,er,ew⟩;have HE:=J (And.intro (eJ.o.trans er) ew);clear er ew;go_wp2_with fail
   (try simp only[Exit.inBlock,Exit.then])
   first
    |refine bodyPost_ret (results_none rfl _ _ _) rfl ?_
    |refine bodyPost_end (results_none rfl _ _ _) rfl ?_
   exact Ar.mkS ll.o HE.o.1 (HE.o.2.as (by rw[Ex.big,qbv]) rfl)
  ·have YE:((tk:Int) == 1)=false:=by rw[beq_eq_false_iff_ne];omega
   by_cases h3:tk=3
   ·subst h3;obtain⟨ww,kf,pL⟩:BD tx=0/\tx≠[112,105]/\tx≠[101]:=by
     rcases eF with h|h|⟨_,c,h,hs⟩
     ·omega
     ·omega
     ·rw[h];exact On c hs
    have hpb:(tx == [112,105])=false:=by rw[beq_eq_false_iff_ne];exact kf
    have VA:(tx == [101])=false:=by rw[beq_eq_false_iff_ne];exact pL
    have ll:Hid (R=F1 (Bk ts f) ts a):=J (by rw[HP.o,if_pos rfl]);have iW:=J (F5 w2 tx);rw[ww]at iW;have pp:=J (fun W v h=>CT g W ts a false ns lg v (.slice A2 ns.length c2) [40] h);rw[show str [40]= .string ⟨#[40]⟩ from rfl]at pp;simp only[qaG,qaE]at pp;clear HP sI eF ww kf pL h1;go_wp2_with fail;refine iW.o.mono ?_
    rintro e w3 ⟨rfl,ab⟩;have aE:=J (aR.o.trans ab);have bx:=hJ.o.keep ab;have eX:=J bx;have j0:=(ba.o.ext ab).three';clear ab bx k0 k1 k2 k3 k4 f1 f2 f3 f4;obtain⟨u1,ej⟩:∃u,isS ts a [40]=u:=⟨_,rfl⟩;rw[ej]at pp;cases u1
    ·have HD:=J (ll.o.trans (O3 ej));clear ej HS;go_wp2_with fail;refine(pp.o _ _ eX.o).mono ?_
     rintro e w4 ⟨rfl,pM⟩;have ew:=eX.o.keep pM.ext;have dT:=J ew;have bE:=J (aE.o.trans pM.ext);obtain⟨⟨k0,k1,k2,k3,k4⟩,⟨f1,f2,f3,f4⟩,sO⟩:=ew.blk.five';clear pM ew;go_wp2_with fail
     (try simp only[Exit.inBlock,Exit.then])
     first
      |refine bodyPost_ret (results_none rfl _ _ _) rfl ?_
      |refine bodyPost_end (results_none rfl _ _ _) rfl ?_
     have h5:=dT.o.fail;exact Ar.mkN HD.o ((KR.of_ext bE.o).trans h5.2) h5.1
    ·have nC:=J ej;clear ej;go_wp2_with fail;refine(pp.o _ _ eX.o).mono ?_
     rintro e w4 ⟨rfl,pM⟩;have ew:=eX.o.keep pM.ext;have dT:=J ew;have bE:=J (aE.o.trans pM.ext);obtain⟨⟨k0,k1,k2,k3,k4⟩,⟨f1,f2,f3,f4⟩,sO⟩:=ew.blk.five';clear pM ew;go_upto_region 25 with fail;have hst:=dT.o.stepR hlt2;obtain⟨w5,eS⟩:∃w5,w5=w4.setCell ⟨g,1,none⟩ (.int .i64 ((a:Int)+1)):=⟨_,rfl⟩;rw[<-eS]at hst ⊢;have fr:=J ((KR.of_ext bE.o).trans hst.2);have lk:=J (HS.o (a+1) (by omega) w5 ns lg _ hst.1);clear hst eS k0 k1 k2 k3 k4 f1 f2 f3 f4;go_wp2_with fail;refine lk.o.mono ?_
     intro e w6 an;obtain⟨r,hr⟩:∃r,Bk ts f (a+1)=r:=⟨_,rfl⟩;obtain⟨_|x,b2⟩:=r
     ·obtain⟨rfl,bO,kZ,k7,bh,hk⟩:=an.none_ hr;have HD:=J (ll.o.trans (KY nC.o hr));have ka:=J (Dx g w6 ts b2 true kZ k7 _ bO [41] bh);rw[show str [41]= .string ⟨#[41]⟩ from rfl]at ka;simp only[qbd,qaV,qbk,if_false,qaG]at ka;have gk:=J (fr.o.trans hk);clear an hr bh hk;go_wp2_with fail;refine ka.o.mono ?_
      rintro e w7 ⟨rfl,iK,qb⟩;have HE:=J (And.intro (gk.o.trans iK) qb);clear iK qb;go_wp2_with fail
      (try simp only[Exit.inBlock,Exit.then])
      first
       |refine bodyPost_ret (results_none rfl _ _ _) rfl ?_
       |refine bodyPost_end (results_none rfl _ _ _) rfl ?_
      exact Ar.mkN HD.o HE.o.1 HE.o.2
     ·obtain⟨rfl,bO,bh,hk⟩:=an.some_ hr;have ki:=J hr;have ka:=J (Dx g w6 ts b2 false _ _ _ bO [41] bh);rw[show str [41]= .string ⟨#[41]⟩ from rfl]at ka;simp only[qaG,qaE]at ka;have gk:=J (fr.o.trans hk);clear an hr bh hk;obtain⟨u2,dU⟩:∃u,isS ts b2 [41]=u:=⟨_,rfl⟩;rw[dU]at ka;cases u2
      ·have HD:=J (ll.o.trans (ML nC.o ki.o dU));simp only[qbk,if_false,qaG]at ka;clear dU;go_wp2_with fail;refine ka.o.mono ?_
       rintro e w7 ⟨rfl,iK,qb⟩;have HE:=J (And.intro (gk.o.trans iK) qb);clear iK qb;go_wp2_with fail
       (try simp only[Exit.inBlock,Exit.then])
       first
        |refine bodyPost_ret (results_none rfl _ _ _) rfl ?_
        |refine bodyPost_end (results_none rfl _ _ _) rfl ?_
       exact Ar.mkN HD.o HE.o.1 HE.o.2
      ·have HD:=J (ll.o.trans (O2 nC.o ki.o dU));simp only[if_true,qbd]at ka;clear dU;go_wp2_with fail;refine ka.o.mono ?_
       rintro e w7 ⟨rfl,iK,qb⟩;have HE:=J (And.intro (gk.o.trans iK) qb);clear iK qb;go_wp2_with fail
       (try simp only[Exit.inBlock,Exit.then])
       first
        |refine bodyPost_ret (results_none rfl _ _ _) rfl ?_
        |refine bodyPost_end (results_none rfl _ _ _) rfl ?_
       exact Ar.mkS HD.o HE.o.1 HE.o.2
   ·have hk2:tk=2:=by
     rcases eF with h|h|⟨h,_⟩
     ·exact absurd h h1
     ·exact h
     ·exact absurd h h3
    subst hk2;clear eF sI YE;by_cases kf:tx=[112,105]
    ·have hpb:(tx == [112,105])=true:=by rw[beq_iff_eq];exact kf
     have VA:(tx == [101])=false:=by rw[beq_eq_false_iff_ne,kf];decide
     have ll:Hid (R=(some (.leaf 3 []),a+1)):=J (by rw[HP.o,if_neg (by decide),if_neg (by decide),kf];rfl);clear HP HS kf;go_upto_region 9 with fail;have hst:=hJ.o.stepR hlt2;obtain⟨w3,fQ⟩:∃w3,w3=w2.setCell ⟨g,1,none⟩ (.int .i64 ((a:Int)+1)):=⟨_,rfl⟩;rw[<-fQ]at hst ⊢;have eI:Blk w3 gt 122 #[.int .i64 ((2:Nat):Int),.int .i64 (ta:Int),str tx]:=by
      rw[fQ];exact ba.o.far (p:=⟨g,1,none⟩) (by show gt≠g;have:=mz.o;omega) _
     have be:=J eI;have eX:=J hst.1;have eJ:=J ((KR.of_ext aR.o).trans hst.2);have j0:=eI.three';clear hst fQ eI k0 k1 k2 k3 k4 f1 f2 f3 f4;have bG:=J (Ce g w3 ts (a+1) false ns lg _ _ 3 0 0 [] eX.o (by omega));rw[show str []= .string ⟨#[]⟩ from rfl]at bG;go_wp2_with fail;refine bG.o.mono ?_
     rintro e w4 ⟨nv2,rfl,er,ew⟩;have HE:=J (And.intro (eJ.o.trans er) ew);clear er ew;go_wp2_with fail
     (try simp only[Exit.inBlock,Exit.then])
     first
      |refine bodyPost_ret (results_none rfl _ _ _) rfl ?_
      |refine bodyPost_end (results_none rfl _ _ _) rfl ?_
     exact Ar.mkS ll.o HE.o.1 (HE.o.2.as (by rw[Ex.big,qbv]) rfl)
    ·have hpb:(tx == [112,105])=false:=by rw[beq_eq_false_iff_ne];exact kf
     by_cases pL:tx=[101]
     ·have VA:(tx == [101])=true:=by rw[beq_iff_eq];exact pL
      have ll:Hid (R=(some (.leaf 4 []),a+1)):=J (by rw[HP.o,if_neg (by decide),if_neg (by decide),pL];rfl);clear HP HS kf pL;go_upto_region 9 with fail;have hst:=hJ.o.stepR hlt2;obtain⟨w3,fQ⟩:∃w3,w3=w2.setCell ⟨g,1,none⟩ (.int .i64 ((a:Int)+1)):=⟨_,rfl⟩;rw[<-fQ]at hst ⊢;have eI:Blk w3 gt 122 #[.int .i64 ((2:Nat):Int),.int .i64 (ta:Int),str tx]:=by
       rw[fQ];exact ba.o.far (p:=⟨g,1,none⟩) (by show gt≠g;have:=mz.o;omega) _
      have be:=J eI;have eX:=J hst.1;have eJ:=J ((KR.of_ext aR.o).trans hst.2);have j0:=eI.three';clear hst fQ eI k0 k1 k2 k3 k4 f1 f2 f3 f4;have bG:=J (Ce g w3 ts (a+1) false ns lg _ _ 4 0 0 [] eX.o (by omega));rw[show str []= .string ⟨#[]⟩ from rfl]at bG;go_wp2_with fail;refine bG.o.mono ?_
      rintro e w4 ⟨nv2,rfl,er,ew⟩;have HE:=J (And.intro (eJ.o.trans er) ew);clear er ew;go_wp2_with fail
      (try simp only[Exit.inBlock,Exit.then])
      first
       |refine bodyPost_ret (results_none rfl _ _ _) rfl ?_
       |refine bodyPost_end (results_none rfl _ _ _) rfl ?_
      exact Ar.mkS ll.o HE.o.1 (HE.o.2.as (by rw[Ex.big,qbv]) rfl)
     ·have VA:(tx == [101])=false:=by rw[beq_eq_false_iff_ne];exact pL
      have iW:=J (fun W=>F5 W tx);by_cases hf0:BD tx=0
      ·rw[hf0]at iW;have ll:Hid (R=(some (.leaf 2 tx),a+1)):=J (by rw[HP.o,if_neg (by decide),if_neg (by decide),if_neg (by rw[hf0];simp),if_neg kf,if_neg pL]);clear HP HS kf pL hf0;go_wp2_with fail;refine(iW.o _).mono ?_
       rintro e w2' ⟨rfl,ab⟩;have tF:=J (aR.o.trans ab);have bx:=hJ.o.keep ab;have tS:=J bx;have pA:=J (ba.o.ext ab);have j0:=pA.o.three';obtain⟨⟨k0,k1,k2,k3,k4⟩,⟨f1,f2,f3,f4⟩,sP⟩:=bx.blk.five';clear ab bx aR hJ ba;generalize tF=aR at *;generalize tS=hJ at *;generalize pA=ba at *;generalize w2'=w2 at *;go_upto_region 22 with fail;have hst:=hJ.o.stepR hlt2;obtain⟨w3,fQ⟩:∃w3,w3=w2.setCell ⟨g,1,none⟩ (.int .i64 ((a:Int)+1)):=⟨_,rfl⟩;rw[<-fQ]at hst ⊢;have eI:Blk w3 gt 122 #[.int .i64 ((2:Nat):Int),.int .i64 (ta:Int),str tx]:=by
        rw[fQ];exact ba.o.far (p:=⟨g,1,none⟩) (by show gt≠g;have:=mz.o;omega) _
       have be:=J eI;have eX:=J hst.1;have eJ:=J ((KR.of_ext aR.o).trans hst.2);have j0:=eI.three';clear hst fQ eI k0 k1 k2 k3 k4 f1 f2 f3 f4;have bG:=J (Ce g w3 ts (a+1) false ns lg _ _ 2 0 0 tx eX.o (by omega));go_wp2_with fail;refine bG.o.mono ?_
       rintro e w4 ⟨nv2,rfl,er,ew⟩;have HE:=J (And.intro (eJ.o.trans er) ew);clear er ew;go_wp2_with fail
       (try simp only[Exit.inBlock,Exit.then])
       first
        |refine bodyPost_ret (results_none rfl _ _ _) rfl ?_
        |refine bodyPost_end (results_none rfl _ _ _) rfl ?_
       exact Ar.mkS ll.o HE.o.1 (HE.o.2.as (by rw[Ex.big,qbv]) rfl)
      ·have hfr:=IG tx hf0;have rq:Hid (R=(match F1 (Bk ts f) ts (a+1) with|(none,b)=>(none,b)|(some x,b)=>(some (.un (BD tx) 0 x),b))):=J (by rw[HP.o,if_neg (by decide),if_neg (by decide),if_pos hf0]);generalize hfk:BD tx=fk at *;have hfp:(0:Int)<(fk:Int):=by omega
       have yE:=J hfr;clear HP kf pL hf0 hfk;go_wp2_with fail;refine(iW.o _).mono ?_
       rintro e w2' ⟨rfl,ab⟩;have tF:=J (aR.o.trans ab);have bx:=hJ.o.keep ab;have tS:=J bx;have pA:=J (ba.o.ext ab);have j0:=pA.o.three';obtain⟨⟨k0,k1,k2,k3,k4⟩,⟨f1,f2,f3,f4⟩,sP⟩:=bx.blk.five';clear ab bx aR hJ ba;generalize tF=aR at *;generalize tS=hJ at *;generalize pA=ba at *;generalize w2'=w2 at *;go_upto_region 15 with fail;have hst:=hJ.o.stepR hlt2;obtain⟨w3,fQ⟩:∃w3,w3=w2.setCell ⟨g,1,none⟩ (.int .i64 ((a:Int)+1)):=⟨_,rfl⟩;rw[<-fQ]at hst ⊢;have eI:Blk w3 gt 122 #[.int .i64 ((2:Nat):Int),.int .i64 (ta:Int),str tx]:=by
        rw[fQ];exact ba.o.far (p:=⟨g,1,none⟩) (by show gt≠g;have:=mz.o;omega) _
       have be:=J eI;have eX:=J hst.1;have eJ:=J ((KR.of_ext aR.o).trans hst.2);have j0:=eI.three';clear hst fQ eI k0 k1 k2 k3 k4 f1 f2 f3 f4;have sL:gt≠g:=by have:=mz.o;omega
       have ka:=J (Dx g w3 ts (a+1) false ns lg _ _ [40] eX.o);rw[show str [40]= .string ⟨#[40]⟩ from rfl]at ka;simp only[qaG,qaE]at ka;obtain⟨u1,ej⟩:∃u,isS ts (a+1) [40]=u:=⟨_,rfl⟩;rw[ej]at ka;cases u1
       ·have HD:Hid (R=(none,a+1)):=J (by rw[rq.o,O3 ej]);simp only[qbk,if_false,qaG]at ka;clear ej HS rq;go_wp2_with fail;refine ka.o.mono ?_
        rintro e w4 ⟨rfl,er,ew⟩;have HE:=J (And.intro (eJ.o.trans er) ew);clear er ew;go_wp2_with fail;refine(Ru g ts _ _ _ _ _ _ HE.o.2).mono ?_
        rintro e w5 ⟨rfl,mQ,dg⟩;have fw:=J (And.intro (HE.o.1.trans mQ) dg);have fv:=J (Dx g w5 ts _ true _ _ _ _ [41] dg);rw[show str [41]= .string ⟨#[41]⟩ from rfl]at fv;simp only[qbd,qaV,qbk,if_false,qaG]at fv;clear mQ dg;go_wp2_with fail;refine fv.o.mono ?_
        rintro e w6 ⟨rfl,jN,jJ⟩;have km:=J (And.intro (fw.o.1.trans jN) jJ);obtain⟨⟨k0,k1,k2,k3,k4⟩,_,eb⟩:=jJ.blk.five';clear jN jJ;go_wp2_with fail
        (try simp only[Exit.inBlock,Exit.then])
        first
         |refine bodyPost_ret (results_none rfl _ _ _) rfl ?_
         |refine bodyPost_end (results_none rfl _ _ _) rfl ?_
        exact Ar.mkN HD.o km.o.1 km.o.2
       ·simp only[if_true,qbd]at ka;have nC:=J ej;clear ej;go_wp2_with fail;refine ka.o.mono ?_
        rintro e w4 ⟨rfl,er,ew⟩;have jC:=J (eJ.o.trans er);have Zh:=J (er.kept1 be.o sL xt.o);have lk:=J (HS.o (a+1+1) (by omega) w4 ns lg _ ew);have eD:=D4 ts f (a+1+1) ew.le;clear er ew HS;go_wp2_with fail;refine lk.o.mono ?_
        intro e w5 an;obtain⟨r,hr⟩:∃r,Bk ts f (a+1+1)=r:=⟨_,rfl⟩;rw[hr]at eD;obtain⟨_|x,b2⟩:=r
        ·obtain⟨rfl,bO,kZ,k7,bh,hk⟩:=an.none_ hr;have HD:Hid (R=(none,b2)):=J (by rw[rq.o,KY nC.o hr]);have fv:=J (Dx g w5 ts b2 true kZ k7 _ bO [41] bh);rw[show str [41]= .string ⟨#[41]⟩ from rfl]at fv;simp only[qbd,qaV,qbk,if_false,qaG]at fv;have fr:=J (jC.o.trans hk);clear an hr bh hk eD rq;go_wp2_with fail;refine fv.o.mono ?_
         rintro e w6 ⟨rfl,jN,jJ⟩;have km:=J (And.intro (fr.o.trans jN) jJ);obtain⟨⟨k0,k1,k2,k3,k4⟩,_,eb⟩:=jJ.blk.five';clear jN jJ;go_wp2_with fail
         (try simp only[Exit.inBlock,Exit.then])
         first
          |refine bodyPost_ret (results_none rfl _ _ _) rfl ?_
          |refine bodyPost_end (results_none rfl _ _ _) rfl ?_
         exact Ar.mkN HD.o km.o.1 km.o.2
        ·obtain⟨rfl,bO,bh,hk⟩:=an.some_ hr;have ki:=J hr;have wm:=eD.2.2 x rfl;simp only at wm;have fv:=J (Dx g w5 ts b2 false _ _ _ bO [41] bh);rw[show str [41]= .string ⟨#[41]⟩ from rfl]at fv;simp only[qaG,qaE]at fv;have fr:=J (jC.o.trans hk);have Zg:=J (hk.kept1 Zh.o.1 sL Zh.o.2);have hfw:=bh.few;clear an hr bh hk eD;obtain⟨u2,dU⟩:∃u,isS ts b2 [41]=u:=⟨_,rfl⟩;rw[dU]at fv;cases u2
         ·have HD:Hid (R=(none,b2)):=J (by rw[rq.o,ML nC.o ki.o dU]);simp only[qbk,if_false,qaG]at fv;clear dU rq;go_wp2_with fail;refine fv.o.mono ?_
          rintro e w6 ⟨rfl,jN,jJ⟩;have km:=J (And.intro (fr.o.trans jN) jJ);obtain⟨⟨k0,k1,k2,k3,k4⟩,_,eb⟩:=jJ.blk.five';clear jN jJ;go_wp2_with fail
          (try simp only[Exit.inBlock,Exit.then])
          first
           |refine bodyPost_ret (results_none rfl _ _ _) rfl ?_
           |refine bodyPost_end (results_none rfl _ _ _) rfl ?_
          exact Ar.mkN HD.o km.o.1 km.o.2
         ·have HD:Hid (R=(some (.un fk 0 x),b2+1)):=J (by rw[rq.o,O2 nC.o ki.o dU]);simp only[if_true,qbd]at fv;clear dU rq;go_wp2_with fail;refine fv.o.mono ?_
          rintro e w6 ⟨rfl,jN,jJ⟩;have gk:=J (fr.o.trans jN);have HQ6:=J (jN.kept1 Zg.o.1 sL Zg.o.2);have HR6:=J jJ;obtain⟨⟨k0,k1,k2,k3,k4⟩,_,eb⟩:=jJ.blk.five';have j0:=HQ6.o.1.three';clear jN jJ;go_wp2_with fail;refine(iW.o _).mono ?_
          rintro e w7 ⟨rfl,bH⟩;have jZ:=J (gk.o.trans (KR.of_ext bH));have bG:=J (Ce g w7 ts (b2+1) false _ _ _ bO (fk:Int) 0 0 [] (HR6.o.keep bH) (by omega));rw[show str []= .string ⟨#[]⟩ from rfl]at bG;clear bH;go_wp2_with fail;refine bG.o.mono ?_
          rintro e w8 ⟨nv2,rfl,d7,cO⟩;have aJ:Az (fk:Int)=1:=by unfold Az;have:=yE.o;rw[if_neg (by omega),if_neg (by omega),if_neg (by omega)]
          have fR:EB (fk:Int) 0 0 (ns++Ak ns.length x).length []=⟨(fk:Int),(((ns++Ak ns.length x).length:Nat):Int)-1,0,0,[]⟩:=by unfold EB;rw[if_pos aJ]
          rw[fR]at cO;have rQ:=x.size_pos;have h10:(fk == 10)=false:=by
           rw[beq_eq_false_iff_ne];have:=yE.o;omega
          have hbg:(lg || x.big)=(lg || (Ex.un fk 0 x).big):=by rw[Ex.big,h10,qaV,Bool.false_or]
          have HF:Hid (RdR g w8 ts (b2+1) false (ns++Ak ns.length (.un fk 0 x)) (lg || (Ex.un fk 0 x).big) _ nv2):=J (cO.as hbg (by
           rw[Ca,<-qao,BC,show ((ns.length+x.size-1:Nat):Int)=((ns.length+x.size:Nat):Int)-1 by omega]))
          have lW:=J (jZ.o.trans d7);clear d7 cO aJ fR h10 hbg;go_wp2_with fail
          (try simp only[Exit.inBlock,Exit.then])
          first
           |refine bodyPost_ret (results_none rfl _ _ _) rfl ?_
           |refine bodyPost_end (results_none rfl _ _ _) rfl ?_
          exact Ar.mkS HD.o lW.o HF.o
 ·have HI:Hid (C1 (Bk ts f) ts a=(none,a)):=J (by
   unfold C1;rw[qav (by rw[<-lP.o];exact fC)])
  have z1:decide (n<=a)=true:=decide_eq_true fC;have z2:(n:Int)<=(a:Int):=by omega
  clear aa;go_enter Tryz.func240,Tryz.ntmps240;go_wp2_with fail;go_quiet (fail);go_wp2_with fail
  (try simp only[Exit.inBlock,Exit.then])
  refine bodyPost_ret (results_none rfl _ _ _) rfl ?_
  have h3:=(H.o.keep ((Ext.refl w).drewN nq)).fail;exact Ar.mkN HI.o ((KR.of_ext ((Ext.refl w).drewN nq)).trans h3.2) h3.1
theorem Pd{z:Int}{n:Nat}{x:Ex}(h:z=(n:Int)\/z= -(n:Int)):(Ex.un 10 z x).big=(decide (64<n) || x.big):=by
 rw[Ex.big];have:(!(decide (-64<=z/\z<=64)))=decide (64<n):=by
  rw[<-decide_not,decide_eq_decide];omega
 rw[this];rfl
theorem EK{z:Int}{len:Nat}:EB 10 0 z len []=⟨10,(len:Int)-1,0,z,[]⟩:=by
 unfold EB;rw[if_pos (by decide)]
theorem JF{c:Nat}(h:Cx c=true):(48<=c/\c<=57)\/c=46:=by
 unfold Cx Dl at h;simp only[Bool.or_eq_true,qaT,decide_eq_true_eq,beq_iff_eq]at h;exact h
theorem Jo(g:Nat)(ts:List Tok)(tv:Value)(f a:Nat)(jP:∀t∈ts,CH t)(hs:∀a',a<a'->SZ g ts tv f a')(w:World)(ns:List Nd)(lg:Bool)(nv:Value)(h:RdR g w ts a false ns lg tv nv):
  Calls Tryz.prog 206 #[.pointer (some ⟨g,0,none⟩)] w (Ar g ts tv ns nv lg (Ba (Bk ts f) ts a) w):=by
 have gy:=J (PY g ts tv f a jP hs w ns lg nv h);have gE:=JD (D4 ts f) a h.le;have fI:=h.max;have fP:=J jP;clear h hs jP;have ua:=J (fun W a bad ns lg nv h=>CT g W ts a bad ns lg tv nv [94] h);have xF:=J (fun W a bad ns lg nv h=>CT g W ts a bad ns lg tv nv [45] h);rw[show str [94]= .string ⟨#[94]⟩ from rfl]at ua;rw[show str [45]= .string ⟨#[45]⟩ from rfl]at xF;go_enter Tryz.func206,Tryz.ntmps206;go_wp2_with fail;refine gy.o.mono ?_
 intro e w1 an;obtain⟨r,hr⟩:∃r,C1 (Bk ts f) ts a=r:=⟨_,rfl⟩;rw[hr]at gE;obtain⟨_|x,b⟩:=r
 ·obtain⟨rfl,bO,kZ,k7,bh,hk⟩:=an.none_ hr;have HD:=J (Mo hr);have HE:=J (And.intro hk bh);have t9:=J (ua.o w1 b true kZ k7 bO bh);simp only[qbd,qaV]at t9;clear an hr bh hk gE;go_wp2_with fail;refine t9.o.mono ?_
  rintro e w2 ⟨rfl,hd⟩;have fw:=J (And.intro (HE.o.1.trans (KR.of_ext hd.ext)) (HE.o.2.keep hd.ext));clear hd;go_wp2_with fail
  (try simp only[Exit.inBlock,Exit.then])
  first
   |refine bodyPost_ret (results_none rfl _ _ _) rfl ?_
   |refine bodyPost_end (results_none rfl _ _ _) rfl ?_
  exact Ar.mkN HD.o fw.o.1 fw.o.2
 ·obtain⟨rfl,bO,bh,hk⟩:=an.some_ hr;have wm:=gE.2.2 x rfl;have eZ:=gE.2.1;simp only at wm eZ;have HR:=J hr;have HE:=J (And.intro hk bh);have t9:=J (ua.o w1 b false _ _ bO bh);simp only[qaG,qaE]at t9;clear an hr bh hk gE;obtain⟨u1,ej⟩:∃u,isS ts b [94]=u:=⟨_,rfl⟩;rw[ej]at t9;cases u1
  ·have HD:=J (Lv HR.o ej);clear ej;go_wp2_with fail;refine t9.o.mono ?_
   rintro e w2 ⟨rfl,hd⟩;have fw:=J (And.intro (HE.o.1.trans (KR.of_ext hd.ext)) (HE.o.2.keep hd.ext));clear hd;go_wp2_with fail
   (try simp only[Exit.inBlock,Exit.then])
   first
    |refine bodyPost_ret (results_none rfl _ _ _) rfl ?_
    |refine bodyPost_end (results_none rfl _ _ _) rfl ?_
   exact Ar.mkS HD.o fw.o.1 fw.o.2
  ·have kF:=Cs ej;have nC:=J ej;have vj:IntKind.i64.wrap ((b:Int)+1)=(b:Int)+1:=IntWalk.i64_in _ (by omega);clear ej;go_wp2_with fail;refine t9.o.mono ?_
   rintro e w2 ⟨rfl,hd⟩;have hr2:=HE.o.2.keep hd.ext;have hJ:=J hr2;have ft:=J (HE.o.1.trans (KR.of_ext hd.ext));obtain⟨⟨k0,k1,k2,k3,k4⟩,⟨f1,f2,f3,f4⟩,sP⟩:=hr2.blk.five';clear hd hr2;go_upto_region 4 with fail;have hst:=hJ.o.stepR kF;obtain⟨w3,fQ⟩:∃w3,w3=w2.setCell ⟨g,1,none⟩ (.int .i64 ((b:Int)+1)):=⟨_,rfl⟩;rw[<-fQ]at hst ⊢;have eJ:=J (ft.o.trans hst.2);have eX:=J hst.1;have my:=J (xF.o w3 (b+1) false _ _ bO hst.1);simp only[qaG,qaE]at my;clear hst fQ k0 k1 k2 k3 k4 f1 f2 f3 f4;obtain⟨u2,dU⟩:∃u,isS ts (b+1) [45]=u:=⟨_,rfl⟩;rw[dU]at my;cases u2
   ·have xm:=J dU;clear dU;go_wp2_with fail;refine my.o.mono ?_
    rintro e w5 ⟨rfl,hd⟩;have dr:=J (eX.o.keep hd.ext);have fr:=J (eJ.o.trans (KR.of_ext hd.ext));clear hd;obtain⟨c1,hc1⟩:∃c1,c1=b+1:=⟨_,rfl⟩;rw[<-hc1]at dr;have mB:=J hc1;have aF:Hid (ER ts c1=none->Ba (Bk ts f) ts a=(none,c1)):=J (fun h=>by rw[hc1]at h ⊢;exact Ki HR.o nC.o xm.o h);obtain⟨A,c0,rfl,aa⟩:=dr.o.tok;have sD:=dr.o.le;have oA:=dr.o.few;obtain⟨⟨k0,k1,k2,k3,k4⟩,⟨f1,f2,f3,f4⟩,wt⟩:=dr.o.blk.five';obtain⟨n,dI⟩:∃n,n=ts.length:=⟨_,rfl⟩;rw[<-dI]at k0 sD fI;have lP:=J dI;have cZ:=aa;clear dI hc1 aa;generalize hlx:(lg || x.big)=lgx at *;have WX:=J hlx;clear hlx;rcases qah c1 n with hlt|fC
    ·have hlt2:c1<ts.length:=by rw[<-lP.o];exact hlt
     obtain⟨bt,VL,hbg,mp,hc⟩:=cZ (by omega);subst VL;obtain⟨q0,q1,q2⟩:=hc c1 hlt2;have hI:ER ts c1=if ts[c1].kind=1 then C5 ts[c1].text else none:=by
      unfold ER;rw[qad hlt2]
     have eF:ts[c1].kind=1->Ao Cx ts[c1].text=ts[c1].text.length:=fun h1=>by
      rcases fP.o ts[c1] (qaw hlt2) with ⟨_,_,h,_⟩|⟨h,_⟩|⟨h,_⟩
      ·exact h
      ·omega
      ·omega
     have iW:=J eF;clear hc eF cZ;generalize ts[c1].kind=tk at *;generalize ts[c1].text=tx at *;have z1:decide (n<=c1)=false:=decide_eq_false (by omega);by_cases hk:tk=1
     ·subst hk;rw[if_pos rfl]at hI;by_cases hl2:tx.length<=2
      ·have z2:decide (2<tx.length)=false:=decide_eq_false (by omega);have z3:¬(2:Int)<(tx.length:Int):=by omega
       have fG:=iW.o rfl;have tP:=J fG;obtain⟨cf,VJ⟩:∃cf:World->Nat,∀W:World,(convert 9 221 (str tx)).run Tryz.prog W= .ok (.slice (some ⟨W.heap.size,0,none⟩) tx.length (cf W)) (Cb W tx):=
        ⟨fun W=>Classical.choose (DC W tx),fun W=>(Classical.choose_spec (DC W tx)).1⟩
       clear fG;go_wp2_with fail;go_quiet (fail);obtain⟨w6,jG⟩:∃w6,w6=w5.drewN nq:=⟨_,rfl⟩;rw[<-jG];have hd:Dr w5 w6:=by rw[jG];exact(Dr.refl w5).drewN _
       rw[<-hd.cell]at k0 k1 k2 k3 k4 q0 q1 q2;have dD:=J ((hd.ext.trans (Ext.refl w6).drew).trans (FK w6.drew tx));have HI:=J hI;have l8:Hid (∀j,j<tx.length->(Cb w6.drew tx).cell? ⟨w6.heap.size,j,none⟩=some (.int .u8 (Af tx j:Int))):=J (fun j hj=>Fg w6.drew tx j hj);clear jG hd hI;go_upto_region 10 with fail;go_region;clear VJ k0 k1 k2 k3 k4 f1 f2 f3 f4 q0 q1 q2 z1 z2 z3;generalize Cb w6.drew tx=wb at *;generalize w6.heap.size=gb at *;generalize cf w6.drew=cb at *;have pH:=dr.o.keep dD.o;have o8:=J pH;have xB:=J (fr.o.trans (KR.of_ext dD.o));obtain⟨⟨k0,k1,k2,k3,k4⟩,⟨f1,f2,f3,f4⟩,dP⟩:=pH.blk.five';clear pH;go_wp2_with fail
       go_loop [3,82] (fun s3 rF=>∃i:Nat,i<=tx.length/\s3= .int .i64 (Eh (tx.take i):Int)/\rF= .int .i64 (i:Int)/\Hid ((tx.take i).all (fun c=>Dl c.toNat)=true)) (fun _ rF=>tx.length-(intOf rF).toNat)
       case atStart=>exact⟨0,qaj _,rfl,rfl,J rfl⟩
       case round=>
        obtain⟨i,hi,rfl,rfl,gz⟩:=hrel;by_cases hit:i<tx.length
        ·have hst:=l8.o i hit;have ql:=O9 i gz.o hl2;have bF:=J (K4 tx i hit);have iP:=BG tx i hit;have uP:=J (qaz hit);have oH:=CR tx i;have eo:=(Hv Cx tx i (by rw[tP.o];exact hit)).2;rw[<-iP]at eo;have jS:=JF eo;have ie:=J iP;obtain⟨c,hc⟩:∃c,c=Af tx i:=⟨_,rfl⟩;rw[<-hc]at hst oH jS;have ul:=J hc;clear iP hc eo;generalize hdv:Eh (tx.take i)=dv at *;have pU:=J hdv;clear hdv;rcases jS with nz|rfl
         ·have y1:((c:Int) == 46)=false:=by rw[beq_eq_false_iff_ne];omega
          have y2:(c == 46)=false:=by rw[beq_eq_false_iff_ne];omega
          have xS:IntKind.i64.wrap (10*(dv:Int))=((10*dv:Nat):Int):=by rw[IntWalk.i64_in _ (by omega)];omega
          have hwc:IntKind.u8.wrap ((c:Int)-48)=((c-48:Nat):Int):=by
           have:IntKind.u8.wrap ((c:Int)-48)=((c:Int)-48) % 256:=rfl;rw[this];omega
          have zk:IntKind.i64.wrap (((c-48:Nat):Int))=((c-48:Nat):Int):=IntWalk.i64_in _ (by omega);obtain⟨p1,fX⟩:∃p1,p1=10*dv:=⟨_,rfl⟩;obtain⟨p2,fi⟩:∃p2,p2=c-48:=⟨_,rfl⟩;rw[<-fX]at xS;rw[<-fi]at hwc zk;have p8:IntKind.i64.wrap ((p1:Int)+(p2:Int))=((p1+p2:Nat):Int):=by rw[IntWalk.i64_in _ (by omega)];omega
          obtain⟨p3,mK⟩:∃p3,p3=p1+p2:=⟨_,rfl⟩;rw[<-mK]at p8;have HV:Hid (Eh (tx.take (i+1))=p3):=J (by rw[bF.o,<-ie.o,<-ul.o,mK,fX,fi]);have qK:Hid ((tx.take (i+1)).all (fun c=>Dl c.toNat)=true):=J (by
           rw[uP.o,qcC,gz.o,qcc,List.all_nil,<-ie.o,<-ul.o];unfold Dl;simp[nz.1,nz.2])
          clear fX fi mK nz;go_wp2_with fail
          go_round
          case rel=>exact⟨i+1,by omega,by rw[HV.o],by go_num,qK⟩
          case measure=>simp[intOf];omega
         ·have jA:Hid (Ba (Bk ts f) ts a=(none,c1)):=J (aF.o (by
           rw[HI.o];unfold C5;rw[if_neg];intro hh;have h2:=qbR.1 hh.2 tx[i] (qaw hit);rw[<-ie.o,<-ul.o]at h2
           revert h2
           decide))
          go_wp2_with fail
          (try simp only[Exit.inBlock,Exit.then])
          first
           |refine bodyPost_ret (results_none rfl _ _ _) rfl ?_
           |refine bodyPost_end (results_none rfl _ _ _) rfl ?_
          have h3:=o8.o.fail;exact Ar.mkN jA.o (xB.o.trans h3.2) h3.1
        ·obtain rfl:i=tx.length:=by omega
         have hal:=gz.o;rw[qaf (qab _)]at hal;rw[qaf (qab _)];have jQ:ER ts c1=some (Eh tx):=by
          rw[HI.o];unfold C5 Eh;rw[if_pos ⟨hl2,hal⟩]
         have zM:=I5 jQ;obtain⟨z,hz⟩:∃z:Int,z=(Eh tx:Int):=⟨_,rfl⟩;have jE:Hid (Ba (Bk ts f) ts a=(some (.un 10 z x),c1+1)):=J (by
          rw[hz,mB.o];rw[mB.o]at jQ;exact N3 HR.o nC.o xm.o jQ)
         have Wn:Hid (z=(Eh tx:Int)\/z= -(Eh tx:Int)):=J (by omega);generalize Eh tx=dv at *;have XI:IntKind.i64.wrap ((dv:Int))=z:=by rw[IntWalk.i64_in _ (by omega),hz]
         have aT:IntKind.i64.wrap ((c1:Int)+1)=(c1:Int)+1:=IntWalk.i64_in _ (by omega);clear hal hz jQ;go_upto_region 18 with fail;have hst:=o8.o.stepR hlt2;obtain⟨w7,ev⟩:∃w7,w7=wb.setCell ⟨g,1,none⟩ (.int .i64 ((c1:Int)+1)):=⟨_,rfl⟩;rw[<-ev]at hst ⊢;have jZ:=J (xB.o.trans hst.2);have qz:=J hst.1;obtain⟨⟨k0,k1,k2,k3,k4⟩,⟨f1,f2,f3,f4⟩,dC⟩:=hst.1.blk.five';clear hst ev;have ib:Hid (∀q,q=(lgx || decide (64<dv))->q=(lg || (Ex.un 10 z x).big)):=J (fun q hq=>by
          rw[hq,Pd Wn.o,<-WX.o];cases lg<;>cases x.big<;>simp)
         have mU:∀q:Bool,q=(lgx || decide (64<dv))->Hid (∃w8,w8=w7.setCell ⟨g,4,none⟩ (.bool q)/\RdR g w8 ts (c1+1) false (ns++Ak ns.length x) q _ bO/\KR g nv bO w w8):=fun q _=>J (by
          have h:=qz.o.large q;exact⟨_,rfl,h.1,jZ.o.trans h.2⟩)
         have lF:(ns++Ak ns.length x).length+1<=c1+1:=by omega
         cases lgx
         ·by_cases hq:64<dv
          ·have sd:decide (64<dv)=true:=decide_eq_true hq;have zG:(64:Int)<(dv:Int):=by omega
           have iE:true=(false || decide (64<dv)):=by rw[sd];rfl
           obtain⟨w8,eN,cO,d7⟩:=(mU true iE).o;have HQ:=J (ib.o true iE);clear iE;go_upto_region 19 with fail;rw[<-eN];have bG:=J (Ce g w8 ts (c1+1) false _ true _ bO 10 0 z [] cO lF);rw[show str []= .string ⟨#[]⟩ from rfl,EK]at bG;have lW:=J d7;clear eN cO d7 mU k0 k1 k2 k3 k4 f1 f2 f3 f4;go_wp2_with fail;refine bG.o.mono ?_
           rintro e w9 ⟨nv2,rfl,jM,il⟩;have rQ:=x.size_pos;have HF:Hid (RdR g w9 ts (c1+1) false (ns++Ak ns.length (.un 10 z x)) (lg || (Ex.un 10 z x).big) _ nv2):=J (il.as HQ.o (by
            rw[Ca,<-qao,BC,show ((ns.length+x.size-1:Nat):Int)=((ns.length+x.size:Nat):Int)-1 by omega];rfl))
           have pn:=J (lW.o.trans jM);clear jM il;go_wp2_with fail
           (try simp only[Exit.inBlock,Exit.then])
           first
            |refine bodyPost_ret (results_none rfl _ _ _) rfl ?_
            |refine bodyPost_end (results_none rfl _ _ _) rfl ?_
           exact Ar.mkS jE.o pn.o HF.o
          ·have sd:decide (64<dv)=false:=decide_eq_false hq;have zG:¬(64:Int)<(dv:Int):=by omega
           have iE:false=(false || decide (64<dv)):=by rw[sd];rfl
           obtain⟨w8,eN,cO,d7⟩:=(mU false iE).o;have HQ:=J (ib.o false iE);clear iE;go_upto_region 19 with fail;rw[<-eN];have bG:=J (Ce g w8 ts (c1+1) false _ false _ bO 10 0 z [] cO lF);rw[show str []= .string ⟨#[]⟩ from rfl,EK]at bG;have lW:=J d7;clear eN cO d7 mU k0 k1 k2 k3 k4 f1 f2 f3 f4;go_wp2_with fail;refine bG.o.mono ?_
           rintro e w9 ⟨nv2,rfl,jM,il⟩;have rQ:=x.size_pos;have HF:Hid (RdR g w9 ts (c1+1) false (ns++Ak ns.length (.un 10 z x)) (lg || (Ex.un 10 z x).big) _ nv2):=J (il.as HQ.o (by
            rw[Ca,<-qao,BC,show ((ns.length+x.size-1:Nat):Int)=((ns.length+x.size:Nat):Int)-1 by omega];rfl))
           have pn:=J (lW.o.trans jM);clear jM il;go_wp2_with fail
           (try simp only[Exit.inBlock,Exit.then])
           first
            |refine bodyPost_ret (results_none rfl _ _ _) rfl ?_
            |refine bodyPost_end (results_none rfl _ _ _) rfl ?_
           exact Ar.mkS jE.o pn.o HF.o
         ·have iE:true=(true || decide (64<dv)):=rfl;obtain⟨w8,eN,cO,d7⟩:=(mU true iE).o;have HQ:=J (ib.o true iE);clear iE;go_upto_region 19 with fail;rw[<-eN];have bG:=J (Ce g w8 ts (c1+1) false _ true _ bO 10 0 z [] cO lF);rw[show str []= .string ⟨#[]⟩ from rfl,EK]at bG;have lW:=J d7;clear eN cO d7 mU k0 k1 k2 k3 k4 f1 f2 f3 f4;go_wp2_with fail;refine bG.o.mono ?_
          rintro e w9 ⟨nv2,rfl,jM,il⟩;have rQ:=x.size_pos;have HF:Hid (RdR g w9 ts (c1+1) false (ns++Ak ns.length (.un 10 z x)) (lg || (Ex.un 10 z x).big) _ nv2):=J (il.as HQ.o (by
           rw[Ca,<-qao,BC,show ((ns.length+x.size-1:Nat):Int)=((ns.length+x.size:Nat):Int)-1 by omega];rfl))
          have pn:=J (lW.o.trans jM);clear jM il;go_wp2_with fail
          (try simp only[Exit.inBlock,Exit.then])
          first
           |refine bodyPost_ret (results_none rfl _ _ _) rfl ?_
           |refine bodyPost_end (results_none rfl _ _ _) rfl ?_
          exact Ar.mkS jE.o pn.o HF.o
      ·have jA:Hid (Ba (Bk ts f) ts a=(none,c1)):=J (aF.o (by rw[hI];unfold C5;rw[if_neg (fun h=>hl2 h.1)]));have z2:decide (2<tx.length)=true:=decide_eq_true (by omega);have z3:(2:Int)<(tx.length:Int):=by omega
       clear hI hl2;go_wp2_with fail;go_quiet (fail);go_wp2_with fail
       (try simp only[Exit.inBlock,Exit.then])
       first
        |refine bodyPost_ret (results_none rfl _ _ _) rfl ?_
        |refine bodyPost_end (results_none rfl _ _ _) rfl ?_
       have h3:=(dr.o.keep ((Ext.refl w5).drewN nq)).fail;exact Ar.mkN jA.o (fr.o.trans ((KR.of_ext ((Ext.refl w5).drewN nq)).trans h3.2)) h3.1
     ·have hk2:((tk:Int) != 1)=true:=by rw[bne_iff_ne];omega
      have jA:Hid (Ba (Bk ts f) ts a=(none,c1)):=J (aF.o (by rw[hI,if_neg hk]));clear hI hk;go_wp2_with fail;go_quiet (fail);go_wp2_with fail
      (try simp only[Exit.inBlock,Exit.then])
      first
       |refine bodyPost_ret (results_none rfl _ _ _) rfl ?_
       |refine bodyPost_end (results_none rfl _ _ _) rfl ?_
      have h3:=(dr.o.keep ((Ext.refl w5).drewN nq)).fail;exact Ar.mkN jA.o (fr.o.trans ((KR.of_ext ((Ext.refl w5).drewN nq)).trans h3.2)) h3.1
    ·have jA:Hid (Ba (Bk ts f) ts a=(none,c1)):=J (aF.o (by
      unfold ER;rw[qav (by rw[<-lP.o];exact fC)]))
     have z1:decide (n<=c1)=true:=decide_eq_true fC;have z2:(n:Int)<=(c1:Int):=by omega
     clear cZ;go_wp2_with fail;go_quiet (fail);go_wp2_with fail
     (try simp only[Exit.inBlock,Exit.then])
     first
      |refine bodyPost_ret (results_none rfl _ _ _) rfl ?_
      |refine bodyPost_end (results_none rfl _ _ _) rfl ?_
     have h3:=(dr.o.keep ((Ext.refl w5).drewN nq)).fail;exact Ar.mkN jA.o (fr.o.trans ((KR.of_ext ((Ext.refl w5).drewN nq)).trans h3.2)) h3.1
   ·have sF:=Cs dU;have xm:=J dU;have vi:IntKind.i64.wrap (((b+1:Nat):Int)+1)=((b+1:Nat):Int)+1:=IntWalk.i64_in _ (by omega);clear dU;go_wp2_with fail;refine my.o.mono ?_
    rintro e w4 ⟨rfl,hd⟩;have ew:=eX.o.keep hd.ext;have dT:=J ew;have jC:=J (eJ.o.trans (KR.of_ext hd.ext));obtain⟨⟨k0,k1,k2,k3,k4⟩,⟨f1,f2,f3,f4⟩,sO⟩:=ew.blk.five';clear hd ew vj;obtain⟨b1,am⟩:∃b1,b1=b+1:=⟨_,rfl⟩;rw[<-am]at k1 vi sF;have ag:=J am;clear am;go_upto_region 7 with fail;have hst:=dT.o.stepR (by rw[<-ag.o];exact sF);rw[<-ag.o]at hst;obtain⟨w5,eS⟩:∃w5,w5=w4.setCell ⟨g,1,none⟩ (.int .i64 ((b1:Int)+1)):=⟨_,rfl⟩;rw[<-eS]at hst ⊢;rw[ag.o]at hst;have dr:=J hst.1;have fr:=J (jC.o.trans hst.2);clear hst eS sF vi k0 k1 k2 k3 k4 f1 f2 f3 f4;obtain⟨c1,hc1⟩:∃c1,c1=b+1+1:=⟨_,rfl⟩;rw[<-hc1]at dr;have mB:=J hc1;have aF:Hid (ER ts c1=none->Ba (Bk ts f) ts a=(none,c1)):=J (fun h=>by rw[hc1]at h ⊢;exact Kj HR.o nC.o xm.o h);obtain⟨A,c0,rfl,aa⟩:=dr.o.tok;have sD:=dr.o.le;have oA:=dr.o.few;obtain⟨⟨k0,k1,k2,k3,k4⟩,⟨f1,f2,f3,f4⟩,wt⟩:=dr.o.blk.five';obtain⟨n,dI⟩:∃n,n=ts.length:=⟨_,rfl⟩;rw[<-dI]at k0 sD fI;have lP:=J dI;have cZ:=aa;clear dI hc1 aa;generalize hlx:(lg || x.big)=lgx at *;have WX:=J hlx;clear hlx;rcases qah c1 n with hlt|fC
    ·have hlt2:c1<ts.length:=by rw[<-lP.o];exact hlt
     obtain⟨bt,VL,hbg,mp,hc⟩:=cZ (by omega);subst VL;obtain⟨q0,q1,q2⟩:=hc c1 hlt2;have hI:ER ts c1=if ts[c1].kind=1 then C5 ts[c1].text else none:=by
      unfold ER;rw[qad hlt2]
     have eF:ts[c1].kind=1->Ao Cx ts[c1].text=ts[c1].text.length:=fun h1=>by
      rcases fP.o ts[c1] (qaw hlt2) with ⟨_,_,h,_⟩|⟨h,_⟩|⟨h,_⟩
      ·exact h
      ·omega
      ·omega
     have iW:=J eF;clear hc eF cZ;generalize ts[c1].kind=tk at *;generalize ts[c1].text=tx at *;have z1:decide (n<=c1)=false:=decide_eq_false (by omega);by_cases hk:tk=1
     ·subst hk;rw[if_pos rfl]at hI;by_cases hl2:tx.length<=2
      ·have z2:decide (2<tx.length)=false:=decide_eq_false (by omega);have z3:¬(2:Int)<(tx.length:Int):=by omega
       have fG:=iW.o rfl;have tP:=J fG;obtain⟨cf,VJ⟩:∃cf:World->Nat,∀W:World,(convert 9 221 (str tx)).run Tryz.prog W= .ok (.slice (some ⟨W.heap.size,0,none⟩) tx.length (cf W)) (Cb W tx):=
        ⟨fun W=>Classical.choose (DC W tx),fun W=>(Classical.choose_spec (DC W tx)).1⟩
       clear fG;go_wp2_with fail;go_quiet (fail);obtain⟨w6,jG⟩:∃w6,w6=w5.drewN nq:=⟨_,rfl⟩;rw[<-jG];have hd:Dr w5 w6:=by rw[jG];exact(Dr.refl w5).drewN _
       rw[<-hd.cell]at k0 k1 k2 k3 k4 q0 q1 q2;have dD:=J ((hd.ext.trans (Ext.refl w6).drew).trans (FK w6.drew tx));have HI:=J hI;have l8:Hid (∀j,j<tx.length->(Cb w6.drew tx).cell? ⟨w6.heap.size,j,none⟩=some (.int .u8 (Af tx j:Int))):=J (fun j hj=>Fg w6.drew tx j hj);clear jG hd hI;go_upto_region 10 with fail;go_region;clear VJ k0 k1 k2 k3 k4 f1 f2 f3 f4 q0 q1 q2 z1 z2 z3;generalize Cb w6.drew tx=wb at *;generalize w6.heap.size=gb at *;generalize cf w6.drew=cb at *;have pH:=dr.o.keep dD.o;have o8:=J pH;have xB:=J (fr.o.trans (KR.of_ext dD.o));obtain⟨⟨k0,k1,k2,k3,k4⟩,⟨f1,f2,f3,f4⟩,dP⟩:=pH.blk.five';clear pH;go_wp2_with fail
       go_loop [3,82] (fun s3 rF=>∃i:Nat,i<=tx.length/\s3= .int .i64 (Eh (tx.take i):Int)/\rF= .int .i64 (i:Int)/\Hid ((tx.take i).all (fun c=>Dl c.toNat)=true)) (fun _ rF=>tx.length-(intOf rF).toNat)
       case atStart=>exact⟨0,qaj _,rfl,rfl,J rfl⟩
       case round=>
        obtain⟨i,hi,rfl,rfl,gz⟩:=hrel;by_cases hit:i<tx.length
        ·have hst:=l8.o i hit;have ql:=O9 i gz.o hl2;have bF:=J (K4 tx i hit);have iP:=BG tx i hit;have uP:=J (qaz hit);have oH:=CR tx i;have eo:=(Hv Cx tx i (by rw[tP.o];exact hit)).2;rw[<-iP]at eo;have jS:=JF eo;have ie:=J iP;obtain⟨c,hc⟩:∃c,c=Af tx i:=⟨_,rfl⟩;rw[<-hc]at hst oH jS;have ul:=J hc;clear iP hc eo;generalize hdv:Eh (tx.take i)=dv at *;have pU:=J hdv;clear hdv;rcases jS with nz|rfl
         ·have y1:((c:Int) == 46)=false:=by rw[beq_eq_false_iff_ne];omega
          have y2:(c == 46)=false:=by rw[beq_eq_false_iff_ne];omega
          have xS:IntKind.i64.wrap (10*(dv:Int))=((10*dv:Nat):Int):=by rw[IntWalk.i64_in _ (by omega)];omega
          have hwc:IntKind.u8.wrap ((c:Int)-48)=((c-48:Nat):Int):=by
           have:IntKind.u8.wrap ((c:Int)-48)=((c:Int)-48) % 256:=rfl;rw[this];omega
          have zk:IntKind.i64.wrap (((c-48:Nat):Int))=((c-48:Nat):Int):=IntWalk.i64_in _ (by omega);obtain⟨p1,fX⟩:∃p1,p1=10*dv:=⟨_,rfl⟩;obtain⟨p2,fi⟩:∃p2,p2=c-48:=⟨_,rfl⟩;rw[<-fX]at xS;rw[<-fi]at hwc zk;have p8:IntKind.i64.wrap ((p1:Int)+(p2:Int))=((p1+p2:Nat):Int):=by rw[IntWalk.i64_in _ (by omega)];omega
          obtain⟨p3,mK⟩:∃p3,p3=p1+p2:=⟨_,rfl⟩;rw[<-mK]at p8;have HV:Hid (Eh (tx.take (i+1))=p3):=J (by rw[bF.o,<-ie.o,<-ul.o,mK,fX,fi]);have qK:Hid ((tx.take (i+1)).all (fun c=>Dl c.toNat)=true):=J (by
           rw[uP.o,qcC,gz.o,qcc,List.all_nil,<-ie.o,<-ul.o];unfold Dl;simp[nz.1,nz.2])
          clear fX fi mK nz;go_wp2_with fail
          go_round
          case rel=>exact⟨i+1,by omega,by rw[HV.o],by go_num,qK⟩
          case measure=>simp[intOf];omega
         ·have jA:Hid (Ba (Bk ts f) ts a=(none,c1)):=J (aF.o (by
           rw[HI.o];unfold C5;rw[if_neg];intro hh;have h2:=qbR.1 hh.2 tx[i] (qaw hit);rw[<-ie.o,<-ul.o]at h2
           revert h2
           decide))
          go_wp2_with fail
          (try simp only[Exit.inBlock,Exit.then])
          first
           |refine bodyPost_ret (results_none rfl _ _ _) rfl ?_
           |refine bodyPost_end (results_none rfl _ _ _) rfl ?_
          have h3:=o8.o.fail;exact Ar.mkN jA.o (xB.o.trans h3.2) h3.1
        ·obtain rfl:i=tx.length:=by omega
         have hal:=gz.o;rw[qaf (qab _)]at hal;rw[qaf (qab _)];have jQ:ER ts c1=some (Eh tx):=by
          rw[HI.o];unfold C5 Eh;rw[if_pos ⟨hl2,hal⟩]
         have zM:=I5 jQ;obtain⟨z,hz⟩:∃z:Int,z= -(Eh tx:Int):=⟨_,rfl⟩;have jE:Hid (Ba (Bk ts f) ts a=(some (.un 10 z x),c1+1)):=J (by
          rw[hz,mB.o];rw[mB.o]at jQ;exact N4 HR.o nC.o xm.o jQ)
         have Wn:Hid (z=(Eh tx:Int)\/z= -(Eh tx:Int)):=J (by omega);generalize Eh tx=dv at *;have XI:IntKind.i64.wrap (-(dv:Int))=z:=by rw[IntWalk.i64_in _ (by omega),hz]
         have aT:IntKind.i64.wrap ((c1:Int)+1)=(c1:Int)+1:=IntWalk.i64_in _ (by omega);clear hal hz jQ;go_upto_region 18 with fail;have hst:=o8.o.stepR hlt2;obtain⟨w7,ev⟩:∃w7,w7=wb.setCell ⟨g,1,none⟩ (.int .i64 ((c1:Int)+1)):=⟨_,rfl⟩;rw[<-ev]at hst ⊢;have jZ:=J (xB.o.trans hst.2);have qz:=J hst.1;obtain⟨⟨k0,k1,k2,k3,k4⟩,⟨f1,f2,f3,f4⟩,dC⟩:=hst.1.blk.five';clear hst ev;have ib:Hid (∀q,q=(lgx || decide (64<dv))->q=(lg || (Ex.un 10 z x).big)):=J (fun q hq=>by
          rw[hq,Pd Wn.o,<-WX.o];cases lg<;>cases x.big<;>simp)
         have mU:∀q:Bool,q=(lgx || decide (64<dv))->Hid (∃w8,w8=w7.setCell ⟨g,4,none⟩ (.bool q)/\RdR g w8 ts (c1+1) false (ns++Ak ns.length x) q _ bO/\KR g nv bO w w8):=fun q _=>J (by
          have h:=qz.o.large q;exact⟨_,rfl,h.1,jZ.o.trans h.2⟩)
         have lF:(ns++Ak ns.length x).length+1<=c1+1:=by omega
         cases lgx
         ·by_cases hq:64<dv
          ·have sd:decide (64<dv)=true:=decide_eq_true hq;have zG:(64:Int)<(dv:Int):=by omega
           have iE:true=(false || decide (64<dv)):=by rw[sd];rfl
           obtain⟨w8,eN,cO,d7⟩:=(mU true iE).o;have HQ:=J (ib.o true iE);clear iE;go_upto_region 19 with fail;rw[<-eN];have bG:=J (Ce g w8 ts (c1+1) false _ true _ bO 10 0 z [] cO lF);rw[show str []= .string ⟨#[]⟩ from rfl,EK]at bG;have lW:=J d7;clear eN cO d7 mU k0 k1 k2 k3 k4 f1 f2 f3 f4;go_wp2_with fail;refine bG.o.mono ?_
           rintro e w9 ⟨nv2,rfl,jM,il⟩;have rQ:=x.size_pos;have HF:Hid (RdR g w9 ts (c1+1) false (ns++Ak ns.length (.un 10 z x)) (lg || (Ex.un 10 z x).big) _ nv2):=J (il.as HQ.o (by
            rw[Ca,<-qao,BC,show ((ns.length+x.size-1:Nat):Int)=((ns.length+x.size:Nat):Int)-1 by omega];rfl))
           have pn:=J (lW.o.trans jM);clear jM il;go_wp2_with fail
           (try simp only[Exit.inBlock,Exit.then])
           first
            |refine bodyPost_ret (results_none rfl _ _ _) rfl ?_
            |refine bodyPost_end (results_none rfl _ _ _) rfl ?_
           exact Ar.mkS jE.o pn.o HF.o
          ·have sd:decide (64<dv)=false:=decide_eq_false hq;have zG:¬(64:Int)<(dv:Int):=by omega
           have iE:false=(false || decide (64<dv)):=by rw[sd];rfl
           obtain⟨w8,eN,cO,d7⟩:=(mU false iE).o;have HQ:=J (ib.o false iE);clear iE;go_upto_region 19 with fail;rw[<-eN];have bG:=J (Ce g w8 ts (c1+1) false _ false _ bO 10 0 z [] cO lF);rw[show str []= .string ⟨#[]⟩ from rfl,EK]at bG;have lW:=J d7;clear eN cO d7 mU k0 k1 k2 k3 k4 f1 f2 f3 f4;go_wp2_with fail;refine bG.o.mono ?_
           rintro e w9 ⟨nv2,rfl,jM,il⟩;have rQ:=x.size_pos;have HF:Hid (RdR g w9 ts (c1+1) false (ns++Ak ns.length (.un 10 z x)) (lg || (Ex.un 10 z x).big) _ nv2):=J (il.as HQ.o (by
            rw[Ca,<-qao,BC,show ((ns.length+x.size-1:Nat):Int)=((ns.length+x.size:Nat):Int)-1 by omega];rfl))
           have pn:=J (lW.o.trans jM);clear jM il;go_wp2_with fail
           (try simp only[Exit.inBlock,Exit.then])
           first
            |refine bodyPost_ret (results_none rfl _ _ _) rfl ?_
            |refine bodyPost_end (results_none rfl _ _ _) rfl ?_
           exact Ar.mkS jE.o pn.o HF.o
         ·have iE:true=(true || decide (64<dv)):=rfl;obtain⟨w8,eN,cO,d7⟩:=(mU true iE).o;have HQ:=J (ib.o true iE);clear iE;go_upto_region 19 with fail;rw[<-eN];have bG:=J (Ce g w8 ts (c1+1) false _ true _ bO 10 0 z [] cO lF);rw[show str []= .string ⟨#[]⟩ from rfl,EK]at bG;have lW:=J d7;clear eN cO d7 mU k0 k1 k2 k3 k4 f1 f2 f3 f4;go_wp2_with fail;refine bG.o.mono ?_
          rintro e w9 ⟨nv2,rfl,jM,il⟩;have rQ:=x.size_pos;have HF:Hid (RdR g w9 ts (c1+1) false (ns++Ak ns.length (.un 10 z x)) (lg || (Ex.un 10 z x).big) _ nv2):=J (il.as HQ.o (by
           rw[Ca,<-qao,BC,show ((ns.length+x.size-1:Nat):Int)=((ns.length+x.size:Nat):Int)-1 by omega];rfl))
          have pn:=J (lW.o.trans jM);clear jM il;go_wp2_with fail
          (try simp only[Exit.inBlock,Exit.then])
          first
           |refine bodyPost_ret (results_none rfl _ _ _) rfl ?_
           |refine bodyPost_end (results_none rfl _ _ _) rfl ?_
          exact Ar.mkS jE.o pn.o HF.o
      ·have jA:Hid (Ba (Bk ts f) ts a=(none,c1)):=J (aF.o (by rw[hI];unfold C5;rw[if_neg (fun h=>hl2 h.1)]));have z2:decide (2<tx.length)=true:=decide_eq_true (by omega);have z3:(2:Int)<(tx.length:Int):=by omega
       clear hI hl2;go_wp2_with fail;go_quiet (fail);go_wp2_with fail
       (try simp only[Exit.inBlock,Exit.then])
       first
        |refine bodyPost_ret (results_none rfl _ _ _) rfl ?_
        |refine bodyPost_end (results_none rfl _ _ _) rfl ?_
       have h3:=(dr.o.keep ((Ext.refl w5).drewN nq)).fail;exact Ar.mkN jA.o (fr.o.trans ((KR.of_ext ((Ext.refl w5).drewN nq)).trans h3.2)) h3.1
     ·have hk2:((tk:Int) != 1)=true:=by rw[bne_iff_ne];omega
      have jA:Hid (Ba (Bk ts f) ts a=(none,c1)):=J (aF.o (by rw[hI,if_neg hk]));clear hI hk;go_wp2_with fail;go_quiet (fail);go_wp2_with fail
      (try simp only[Exit.inBlock,Exit.then])
      first
       |refine bodyPost_ret (results_none rfl _ _ _) rfl ?_
       |refine bodyPost_end (results_none rfl _ _ _) rfl ?_
      have h3:=(dr.o.keep ((Ext.refl w5).drewN nq)).fail;exact Ar.mkN jA.o (fr.o.trans ((KR.of_ext ((Ext.refl w5).drewN nq)).trans h3.2)) h3.1
    ·have jA:Hid (Ba (Bk ts f) ts a=(none,c1)):=J (aF.o (by
      unfold ER;rw[qav (by rw[<-lP.o];exact fC)]))
     have z1:decide (n<=c1)=true:=decide_eq_true fC;have z2:(n:Int)<=(c1:Int):=by omega
     clear cZ;go_wp2_with fail;go_quiet (fail);go_wp2_with fail
     (try simp only[Exit.inBlock,Exit.then])
     first
      |refine bodyPost_ret (results_none rfl _ _ _) rfl ?_
      |refine bodyPost_end (results_none rfl _ _ _) rfl ?_
     have h3:=(dr.o.keep ((Ext.refl w5).drewN nq)).fail;exact Ar.mkN jA.o (fr.o.trans ((KR.of_ext ((Ext.refl w5).drewN nq)).trans h3.2)) h3.1
end Big
end Go.Proofs.YtkoaogkknnelaaaGreatDoor
