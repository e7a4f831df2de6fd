import Derived.Test.YtkoaogkknnelaaaGreatDoorM23
set_option linter.unusedVariables false
set_option linter.unusedSimpArgs false
set_option maxHeartbeats 8000000
set_option maxRecDepth 100000
namespace Go.Proofs.YtkoaogkknnelaaaGreatDoor
namespace Big
open Lib (hid)
open Go.RowKit
structure RdR (g:Nat) (w:World) (ts:List Tok) (a:Nat) (bad:Bool) (ns:List Nd) (lg:Bool) (tv nv:Value):Prop where
 blk:Blk w g 120 #[tv,.int .i64 (a:Int),.bool bad,nv,.bool lg]
 row:AB (g+1) w nv ns
 tok:Ia g w tv ts
 few:ns.length<=a
 le:a<=ts.length
 max:ts.length<=1000000
section
variable {g:Nat} {w w':World} {ts:List Tok} {a:Nat} {bad lg:Bool} {ns:List Nd} {tv nv:Value}
theorem RdR.keep(h:RdR g w ts a bad ns lg tv nv)(hx:Ext w w'):RdR g w' ts a bad ns lg tv nv:=
 ⟨h.blk.ext hx,h.row.ext hx,h.tok.below (Below.mono hx (Nat.le_of_lt h.blk.lt)),h.few,h.le,h.max⟩
theorem Blk.five'{t:TypeId}{c1 c2 c3 c4 c5:Value}(h:Blk w g t #[c1,c2,c3,c4,c5]):(w.cell? ⟨g,0,none⟩=some c1/\w.cell? ⟨g,1,none⟩=some c2/\w.cell? ⟨g,2,none⟩=some c3/\w.cell? ⟨g,3,none⟩=some c4/\w.cell? ⟨g,4,none⟩=some c5)/\(w.frozen? ⟨g,1,none⟩=false/\w.frozen? ⟨g,2,none⟩=false/\w.frozen? ⟨g,3,none⟩=false/\w.frozen? ⟨g,4,none⟩=false)/\g<w.heap.size:=
 ⟨⟨h.cell 0,h.cell 1,h.cell 2,h.cell 3,h.cell 4⟩,⟨h.frozen 1,h.frozen 2,h.frozen 3,h.frozen 4⟩,h.lt⟩
theorem KR.set(h:Below g w w)(o:Nat)(u:Value):KR g nv nv w (w.setCell ⟨g,o,none⟩ u):=by
 have hb:Below g w (w.setCell ⟨g,o,none⟩ u):=Below.setCell h (p:=⟨g,o,none⟩) (Nat.le_refl _) _;exact⟨hb.os,hb.tape,hb.output,hb.size,fun k _ hk _=>Below.heap_setCell _ _ _ k hk,fun _ hj=> .inl hj⟩
theorem RdR.stepR(h:RdR g w ts a bad ns lg tv nv)(ha:a<ts.length):RdR g (w.setCell ⟨g,1,none⟩ (.int .i64 ((a:Int)+1))) ts (a+1) bad ns lg tv nv/\KR g nv nv w (w.setCell ⟨g,1,none⟩ (.int .i64 ((a:Int)+1))):=by
 have hk:KR g nv nv w (w.setCell ⟨g,1,none⟩ (.int .i64 ((a:Int)+1))):=KR.set (Below.refl g w) 1 _;have hb:Below g w (w.setCell ⟨g,1,none⟩ (.int .i64 ((a:Int)+1))):=Below.setCell (Below.refl g w) (p:=⟨g,1,none⟩) (Nat.le_refl _) _;refine⟨⟨?_,h.row.kept (fun k hk _=>Below.heap_setCell _ _ _ k (by show k≠g;omega)),h.tok.below hb,by have:=h.few;omega,ha,h.max⟩,hk⟩;have h3:=h.blk.set_ 1 (.int .i64 ((a:Int)+1));rw[Int.natCast_add];exact h3
theorem RdR.fail(h:RdR g w ts a bad ns lg tv nv):RdR g (w.setCell ⟨g,2,none⟩ (.bool true)) ts a true ns lg tv nv/\KR g nv nv w (w.setCell ⟨g,2,none⟩ (.bool true)):=by
 have hk:KR g nv nv w (w.setCell ⟨g,2,none⟩ (.bool true)):=KR.set (Below.refl g w) 2 _;have hb:Below g w (w.setCell ⟨g,2,none⟩ (.bool true)):=Below.setCell (Below.refl g w) (p:=⟨g,2,none⟩) (Nat.le_refl _) _;exact⟨⟨h.blk.set_ 2 (.bool true),h.row.kept (fun k hk _=>Below.heap_setCell _ _ _ k (by show k≠g;omega)),h.tok.below hb,h.few,h.le,h.max⟩,hk⟩
theorem RdR.large(h:RdR g w ts a bad ns lg tv nv)(l2:Bool):RdR g (w.setCell ⟨g,4,none⟩ (.bool l2)) ts a bad ns l2 tv nv/\KR g nv nv w (w.setCell ⟨g,4,none⟩ (.bool l2)):=by
 have hk:KR g nv nv w (w.setCell ⟨g,4,none⟩ (.bool l2)):=KR.set (Below.refl g w) 4 _;have hb:Below g w (w.setCell ⟨g,4,none⟩ (.bool l2)):=Below.setCell (Below.refl g w) (p:=⟨g,4,none⟩) (Nat.le_refl _) _;exact⟨⟨h.blk.set_ 4 (.bool l2),h.row.kept (fun k hk _=>Below.heap_setCell _ _ _ k (by show k≠g;omega)),h.tok.below hb,h.few,h.le,h.max⟩,hk⟩
end
theorem CF(g:Nat)(w:World)(ts:List Tok)(a:Nat)(bad:Bool)(ns:List Nd)(lg:Bool)(tv nv:Value)(c:List UInt8)(h:RdR g w ts a bad ns lg tv nv):
  Calls Tryz.prog 129 #[.pointer (some ⟨g,0,none⟩),str c] w fun e w'=>e= .returned (.bool (!bad && isS ts a c))/\Dr w w':=by
 have hb:=h.blk;have hn:=h.row;obtain⟨A,c0,rfl,aa⟩:=h.tok;obtain⟨A2,c2,rfl⟩:=hn.shape;have cx:=h.le;have eI:=h.max;obtain⟨⟨k0,k1,k2,k3,k4⟩,_,hg⟩:=hb.five';clear hb hn h;cases bad
 ·obtain⟨n,gn⟩:∃n,n=ts.length:=⟨_,rfl⟩;rw[<-gn]at k0 cx eI;have kf:=hid gn;clear gn;rcases Nat.lt_or_ge a n with hlt|ew
  ·have hlt2:a<ts.length:=by rw[<-kf.out];exact hlt
   obtain⟨b,rfl,_,_,hc⟩:=aa (by omega);obtain⟨q0,q1,q2⟩:=hc a hlt2;have hI:isS ts a c=((ts[a].kind == 3) && (ts[a].text == c)):=by
    unfold isS;rw[List.getElem?_eq_getElem hlt2]
   have HI:=hid hI;clear hI aa hc;generalize ts[a].kind=tk at *;generalize ts[a].text=tx at *;generalize isS ts a c=r at *;have z1:decide (a<n)=true:=decide_eq_true hlt;cases hk:(tk == 3)
   ·have hk2:((tk:Int) == 3)=false:=by
     rw[beq_eq_false_iff_ne]at hk ⊢;omega
    rw[hk]at HI;clear hk;go_enter Tryz.func129,Tryz.ntmps129;go_wp2_with fail;go_quiet (fail);go_wp2_with fail;go_ret;exact⟨by rw[HI.out];rfl,(Dr.refl w).drewN _⟩
   ·have hk2:((tk:Int) == 3)=true:=by
     rw[beq_iff_eq]at hk ⊢;omega
    rw[hk]at HI;clear hk;go_enter Tryz.func129,Tryz.ntmps129;go_wp2_with fail;go_quiet (fail);go_wp2_with fail;go_ret;exact⟨by rw[HI.out];rfl,(Dr.refl w).drewN _⟩
  ·have HI:Hid (isS ts a c=false):=hid (by
    unfold isS;rw[List.getElem?_eq_none (by rw[<-kf.out];exact ew)])
   have z1:decide (a<n)=false:=decide_eq_false (by omega);have z2:¬(a:Int)<(n:Int):=by omega
   clear aa;go_enter Tryz.func129,Tryz.ntmps129;go_wp2_with fail;go_quiet (fail);go_wp2_with fail;go_ret;exact⟨by rw[HI.out];rfl,(Dr.refl w).drewN _⟩
 ·clear aa;go_enter Tryz.func129,Tryz.ntmps129;go_wp2_with fail;go_quiet (fail);go_wp2_with fail;go_ret;exact⟨rfl,(Dr.refl w).drewN _⟩
theorem De(g:Nat)(w:World)(ts:List Tok)(a:Nat)(bad:Bool)(ns:List Nd)(lg:Bool)(tv nv:Value)(c:List UInt8)(h:RdR g w ts a bad ns lg tv nv):
  Calls Tryz.prog 268 #[.pointer (some ⟨g,0,none⟩),str c] w fun e w'=>e= .returned (.tuple #[])/\KR g nv nv w w'/\RdR g w' ts (if (!bad && isS ts a c)=true then a+1 else a) (!(!bad && isS ts a c)) ns lg tv nv:=by
 have HS:=hid (CF g w ts a bad ns lg tv nv c h);have H:=hid h;have eI:=h.max;have cx:=h.le;cases hs:(!bad && isS ts a c)
 ·rw[hs]at HS;clear h hs;go_enter Tryz.func268,Tryz.ntmps268;go_wp2_with fail;refine HS.out.mono ?_
  rintro e w1 ⟨rfl,hd⟩;have hr:=H.out.keep hd.ext;have HR:=hid hr;have HD:=hid hd;obtain⟨⟨k0,k1,k2,k3,k4⟩,⟨f1,f2,f3,f4⟩,hg⟩:=hr.blk.five';clear hd hr;go_wp2_with fail;go_end0;have h3:=HR.out.fail;exact⟨rfl,(KR.of_ext HD.out.ext).trans h3.2,h3.1⟩
 ·rw[hs]at HS;have hlt:=Cb (Bool.and_eq_true_iff.1 hs).2;have yi:bad=false:=by have:=(Bool.and_eq_true_iff.1 hs).1;simpa using this
  subst yi;have a5:IntKind.i64.wrap ((a:Int)+1)=(a:Int)+1:=IntWalk.i64_in _ (by omega);clear h hs;go_enter Tryz.func268,Tryz.ntmps268;go_wp2_with fail;refine HS.out.mono ?_
  rintro e w1 ⟨rfl,hd⟩;have hr:=H.out.keep hd.ext;have HR:=hid hr;have HD:=hid hd;obtain⟨⟨k0,k1,k2,k3,k4⟩,⟨f1,f2,f3,f4⟩,hg⟩:=hr.blk.five';clear hd hr;go_wp2_with fail
  (try simp only[Exit.inBlock,Exit.then])
  refine bodyPost_ret (results_none rfl _ _ _) rfl ?_
  have h3:=HR.out.stepR hlt;exact⟨rfl,(KR.of_ext HD.out.ext).trans h3.2,h3.1⟩
def D9(k first z:Int)(len:Nat)(t:List UInt8):Nd:=if Aq k=1 then ⟨k,(len:Int)-1,0,z,t⟩ else if Aq k=2 then ⟨k,first,(len:Int)-1,z,t⟩ else ⟨k,0,0,z,t⟩
theorem BX(g:Nat)(w:World)(ts:List Tok)(a:Nat)(bad:Bool)(ns:List Nd)(lg:Bool)(tv nv:Value)(k first z:Int)(t:List UInt8)(h:RdR g w ts a bad ns lg tv nv)(hf:ns.length+1<=a):
  Calls Tryz.prog 130 #[.pointer (some ⟨g,0,none⟩),.int .i64 k,.int .i64 first,.int .i64 z,str t] w fun e w'=>∃nv',e= .returned (.tuple #[])/\KR g nv nv' w w'/\RdR g w' ts a bad (ns++[D9 k first z ns.length t]) lg tv nv':=by
 have ao:=h.blk;have a9:=h.row;have HT:=hid h.tok;have cx:=h.le;have eI:=h.max;have HB:=hid ao;have HR:=hid a9;obtain⟨A,c,rfl⟩:=a9.shape;have eC:=ao.lt;obtain⟨i0,hi,aE,hz1,bx⟩:=info_parts Eo;obtain⟨s,hs⟩:∃s:ByteArray,s=⟨t.toArray⟩:=⟨_,rfl⟩;have vU:Hid (str t= .string s):=hid (by rw[hs];rfl);rw[vU.out];clear hs h a9;have aO:=hid (fun W=>Bs W k);obtain⟨⟨k0,k1,k2,k3,k4⟩,⟨f1,f2,f3,f4⟩,_⟩:=ao.five';clear ao;obtain⟨n,hn⟩:∃n,n=ns.length:=⟨_,rfl⟩;rw[<-hn]at hf k3 ⊢;have HN:=hid hn;clear hn;have a5:IntKind.i64.wrap ((n:Int)-1)=(n:Int)-1:=IntWalk.i64_in _ (by omega);have key:=Fb k;have tC:∀q:Int,¬q=1->(q == 1)=false:=fun q h=>by rw[beq_eq_false_iff_ne];exact h
 clear tC;have h3:(Aq k≠1/\Aq k≠2)\/Aq k=1\/Aq k=2:=by omega
 rcases h3 with ⟨tA,tw⟩|aD|aD
 ·have b1:(Aq k == 1)=false:=by rw[beq_eq_false_iff_ne];exact tA
  have b2:(Aq k == 2)=false:=by rw[beq_eq_false_iff_ne];exact tw
  have jz:Hid (D9 k first z ns.length t=⟨k,0,0,z,t⟩):=hid (by unfold D9;rw[if_neg tA,if_neg tw]);generalize Aq k=op at *;go_enter Tryz.func130,Tryz.ntmps130;go_wp2_with fail;refine(aO.out _).mono ?_
  rintro e w2 ⟨rfl,rfl⟩;obtain⟨w0,dO⟩:∃w0,w0=w.alloc (.cells #[.int .i64 k,.int .i64 0,.int .i64 0,.int .i64 z,.string s] 95):=⟨_,rfl⟩;have hx0:Ext w w0:=by rw[dO];exact((Ext.refl w).alloc _)
  have mB:Blk w0 w.heap.size 95 #[.int .i64 k,.int .i64 0,.int .i64 0,.int .i64 z,.string s]:=by rw[dO];exact(Blk.new w _ _)
  have cB:w0.heap.size=w.heap.size+1:=by rw[dO];simp
  have am:=hid (HB.out.ext hx0);have mS:=hid (HR.out.ext hx0);have cX:=hid hx0;have aB:ns.length=n:=HN.out.symm;have pC:Hid (w.ownsRow (g+1) 95 5 (.slice A n c) n (Bz ns)):=hid (by have h:=HR.out;unfold AB at h;rw[aB]at h;exact h);have hne:∀q,(Value.slice A n c).ownBlock=some q->g≠q:=fun q hq=>by have:=AH pC.out q hq;omega
  have iM:Hid (∀w':World,(w0.alloc (.cells #[.int .i64 k,.int .i64 0,.int .i64 0,.int .i64 z,.string s] 95)).drew.grownBy w' (Value.slice A n c).ownBlock->Blk w' g 120 #[tv,.int .i64 (a:Int),.bool bad,.slice A n c,.bool lg]/\(Below g w0 w'/\∀q,q<w.heap.size->(Value.slice A n c).ownBlock≠some q->w'.heap[q]? =w.heap[q]?)):=hid (fun w' au=>by
   refine⟨?_,?_⟩
   ·have h1:=au.block g (show g<(w0.alloc (.cells #[.int .i64 k,.int .i64 0,.int .i64 0,.int .i64 z,.string s] 95)).drew.heap.size by simp;omega) (fun e=>hne g e.symm rfl);have h2:=(am.out.alloc (.cells #[.int .i64 k,.int .i64 0,.int .i64 0,.int .i64 z,.string s] 95)).drew;rw[aB]at h2;exact h1.trans h2
   ·refine⟨(((Below.refl g w0).alloc (by omega) _).drew).grown au (by simp;omega) (fun q hq=>by have:=AH pC.out q hq;omega),fun q hq hne2=> ?_⟩;have h1:=au.block q (show q<(w0.alloc (.cells #[.int .i64 k,.int .i64 0,.int .i64 0,.int .i64 z,.string s] 95)).drew.heap.size by simp;omega) (fun e=>hne2 e.symm);rw[h1];exact(Below.heap_alloc w0 _ q (by omega)).trans (hx0.block q hq))
  have jE:Hid (∀(j:Nat) (u:Value),[Value.int .i64 k,Value.int .i64 0,Value.int .i64 0,Value.int .i64 z,Value.string s][j]? =some u->(w0.alloc (.cells #[.int .i64 k,.int .i64 0,.int .i64 0,.int .i64 z,.string s] 95)).drew.cell? ((⟨w0.heap.size,0,none⟩:Addr).add j)=some u):=hid (BV w0 95 [.int .i64 k,.int .i64 0,.int .i64 0,.int .i64 z,.string s]);have dA:Hid ((w0.alloc (.cells #[.int .i64 k,.int .i64 0,.int .i64 0,.int .i64 z,.string s] 95)).drew.ownsRow (g+1) 95 5 (.slice A n c) n (Bz ns)):=hid (by
   have h:=Af mS.out (w':=(w0.alloc (.cells #[.int .i64 k,.int .i64 0,.int .i64 0,.int .i64 z,.string s] 95)).drew) (fun k _ hk=>Below.heap_alloc w0 _ k hk);rw[aB]at h;exact h)
  have ag:Hid (n+1<=maxLen):=hid (by unfold maxLen;omega);have aY:Hid ((n+1)*48<=140737488355328):=hid (by omega);have aZ:Hid (g+1<=(w0.alloc (.cells #[.int .i64 k,.int .i64 0,.int .i64 0,.int .i64 z,.string s] 95)).drew.heap.size):=hid (by simp;omega);have oF:Hid (ndC (D9 k first z ns.length t)=[.int .i64 k,.int .i64 0,.int .i64 0,.int .i64 z,.string s]):=hid (by rw[jz.out];(try rw[aB]);simp only[ndC,vU.out]);rw[cB]at jE;have HZ:=hid dO;have q0:=mB.five;obtain⟨⟨k0,k1,k2,k3,k4⟩,⟨f1,f2,f3,f4⟩,mr⟩:=am.out.five';rw[aB]at k3;clear hne hx0 mB dO aB;go_upto_region 6 with fail;rw[<-HZ.out];clear HZ
  go_region_law (refine step_append_lies _ rfl (.tmp 41) (.tmp 43) 32 rfl (g+1) 95 i0 _ 5 48 Tryz.underlying32 hi aE hz1 bx rfl (by decide) _ n (Bz ns) rfl dA.out ⟨w.heap.size+1,0,none⟩ 1 1 [.int .i64 k,.int .i64 0,.int .i64 0,.int .i64 z,.string s] rfl rfl jE.out (by simp[Value.oneCell']) (by decide) ag.out aY.out aZ.out _ rfl ?_;intro g' c' w' ai au hat hlt;have oI:=hid ai;have HM:=hid (iM.out w' au);have fW:=hid hat;clear ai au hat;obtain⟨⟨m0,m1,m2,m3,m4⟩,⟨n1,n2,n3,n4⟩,qD⟩:=HM.out.1.five')
  all_goals
   have dY:=HM.out.1.set_ 3 (.slice (some ⟨g',0,none⟩) (n+1) c');have fO:=hid ((Below.mono cX.out (Nat.le_of_lt eC)).trans (HM.out.2.1.setCell (p:=⟨g,3,none⟩) (Nat.le_refl _) (.slice (some ⟨g',0,none⟩) (n+1) c')));have HF:Hid (RdR g (w'.setCell ⟨g,3,none⟩ (.slice (some ⟨g',0,none⟩) (n+1) c')) ts a bad (ns++[D9 k first z ns.length t]) lg tv (.slice (some ⟨g',0,none⟩) (n+1) c')):=hid ⟨dY,by
     have h3:=oI.out;unfold AB;rw[CW,Ek,oF.out,List.length_append,List.length_singleton,<-HN.out];exact Af h3 (fun k hk _=>Below.heap_setCell _ _ _ k (by show k≠g;omega)),HT.out.below fO.out,by rw[List.length_append,List.length_singleton,<-HN.out];exact hf,cx,eI⟩
   have pH:Hid (KR g (.slice A n c) (.slice (some ⟨g',0,none⟩) (n+1) c') w (w'.setCell ⟨g,3,none⟩ (.slice (some ⟨g',0,none⟩) (n+1) c'))):=hid ⟨fO.out.os,fO.out.tape,fO.out.output,fO.out.size,fun q h1 h2 h3=>(Below.heap_setCell _ _ _ q h2).trans (HM.out.2.2 q h1 h3),fun j hj=>by
     simp only[Value.ownBlock,Option.some.injEq]at hj;subst hj;rcases fW.out with h4|h4
     ·exact .inl h4
     ·right
      rw[h4];simp;omega⟩
   clear dY;go_wp2_with fail;go_end0;rw[HN.out]at pH HF ⊢;exact⟨_,rfl,pH.out,HF.out⟩
 ·have jz:Hid (D9 k first z ns.length t=⟨k,(ns.length:Int)-1,0,z,t⟩):=hid (by unfold D9;rw[if_pos aD]);rw[aD]at aO;clear aD key;go_enter Tryz.func130,Tryz.ntmps130;go_wp2_with fail;refine(aO.out _).mono ?_
  rintro e w2 ⟨rfl,rfl⟩;go_upto_region 6 with fail;obtain⟨w0,dO⟩:∃w0,w0=w.alloc (.cells #[.int .i64 k,.int .i64 ((n:Int)-1),.int .i64 0,.int .i64 z,.string s] 95):=⟨_,rfl⟩;have hx0:Ext w w0:=by rw[dO];exact((Ext.refl w).alloc _)
  have mB:Blk w0 w.heap.size 95 #[.int .i64 k,.int .i64 ((n:Int)-1),.int .i64 0,.int .i64 z,.string s]:=by rw[dO];exact(Blk.new w _ _)
  have cB:w0.heap.size=w.heap.size+1:=by rw[dO];simp
  have am:=hid (HB.out.ext hx0);have mS:=hid (HR.out.ext hx0);have cX:=hid hx0;have aB:ns.length=n:=HN.out.symm;have pC:Hid (w.ownsRow (g+1) 95 5 (.slice A n c) n (Bz ns)):=hid (by have h:=HR.out;unfold AB at h;rw[aB]at h;exact h);have hne:∀q,(Value.slice A n c).ownBlock=some q->g≠q:=fun q hq=>by have:=AH pC.out q hq;omega
  have iM:Hid (∀w':World,(w0.alloc (.cells #[.int .i64 k,.int .i64 ((n:Int)-1),.int .i64 0,.int .i64 z,.string s] 95)).drew.grownBy w' (Value.slice A n c).ownBlock->Blk w' g 120 #[tv,.int .i64 (a:Int),.bool bad,.slice A n c,.bool lg]/\(Below g w0 w'/\∀q,q<w.heap.size->(Value.slice A n c).ownBlock≠some q->w'.heap[q]? =w.heap[q]?)):=hid (fun w' au=>by
   refine⟨?_,?_⟩
   ·have h1:=au.block g (show g<(w0.alloc (.cells #[.int .i64 k,.int .i64 ((n:Int)-1),.int .i64 0,.int .i64 z,.string s] 95)).drew.heap.size by simp;omega) (fun e=>hne g e.symm rfl);have h2:=(am.out.alloc (.cells #[.int .i64 k,.int .i64 ((n:Int)-1),.int .i64 0,.int .i64 z,.string s] 95)).drew;rw[aB]at h2;exact h1.trans h2
   ·refine⟨(((Below.refl g w0).alloc (by omega) _).drew).grown au (by simp;omega) (fun q hq=>by have:=AH pC.out q hq;omega),fun q hq hne2=> ?_⟩;have h1:=au.block q (show q<(w0.alloc (.cells #[.int .i64 k,.int .i64 ((n:Int)-1),.int .i64 0,.int .i64 z,.string s] 95)).drew.heap.size by simp;omega) (fun e=>hne2 e.symm);rw[h1];exact(Below.heap_alloc w0 _ q (by omega)).trans (hx0.block q hq))
  have jE:Hid (∀(j:Nat) (u:Value),[Value.int .i64 k,Value.int .i64 ((n:Int)-1),Value.int .i64 0,Value.int .i64 z,Value.string s][j]? =some u->(w0.alloc (.cells #[.int .i64 k,.int .i64 ((n:Int)-1),.int .i64 0,.int .i64 z,.string s] 95)).drew.cell? ((⟨w0.heap.size,0,none⟩:Addr).add j)=some u):=hid (BV w0 95 [.int .i64 k,.int .i64 ((n:Int)-1),.int .i64 0,.int .i64 z,.string s]);have dA:Hid ((w0.alloc (.cells #[.int .i64 k,.int .i64 ((n:Int)-1),.int .i64 0,.int .i64 z,.string s] 95)).drew.ownsRow (g+1) 95 5 (.slice A n c) n (Bz ns)):=hid (by
   have h:=Af mS.out (w':=(w0.alloc (.cells #[.int .i64 k,.int .i64 ((n:Int)-1),.int .i64 0,.int .i64 z,.string s] 95)).drew) (fun k _ hk=>Below.heap_alloc w0 _ k hk);rw[aB]at h;exact h)
  have ag:Hid (n+1<=maxLen):=hid (by unfold maxLen;omega);have aY:Hid ((n+1)*48<=140737488355328):=hid (by omega);have aZ:Hid (g+1<=(w0.alloc (.cells #[.int .i64 k,.int .i64 ((n:Int)-1),.int .i64 0,.int .i64 z,.string s] 95)).drew.heap.size):=hid (by simp;omega);have oF:Hid (ndC (D9 k first z ns.length t)=[.int .i64 k,.int .i64 ((n:Int)-1),.int .i64 0,.int .i64 z,.string s]):=hid (by rw[jz.out];(try rw[aB]);simp only[ndC,vU.out]);rw[cB]at jE;have HZ:=hid dO;have q0:=mB.five;obtain⟨⟨k0,k1,k2,k3,k4⟩,⟨f1,f2,f3,f4⟩,mr⟩:=am.out.five';rw[aB]at k3;clear hne hx0 mB dO aB;go_upto_region 6 with fail;rw[<-HZ.out];clear HZ
  go_region_law (refine step_append_lies _ rfl (.tmp 41) (.tmp 43) 32 rfl (g+1) 95 i0 _ 5 48 Tryz.underlying32 hi aE hz1 bx rfl (by decide) _ n (Bz ns) rfl dA.out ⟨w.heap.size+1,0,none⟩ 1 1 [.int .i64 k,.int .i64 ((n:Int)-1),.int .i64 0,.int .i64 z,.string s] rfl rfl jE.out (by simp[Value.oneCell']) (by decide) ag.out aY.out aZ.out _ rfl ?_;intro g' c' w' ai au hat hlt;have oI:=hid ai;have HM:=hid (iM.out w' au);have fW:=hid hat;clear ai au hat;obtain⟨⟨m0,m1,m2,m3,m4⟩,⟨n1,n2,n3,n4⟩,qD⟩:=HM.out.1.five')
  all_goals
   have dY:=HM.out.1.set_ 3 (.slice (some ⟨g',0,none⟩) (n+1) c');have fO:=hid ((Below.mono cX.out (Nat.le_of_lt eC)).trans (HM.out.2.1.setCell (p:=⟨g,3,none⟩) (Nat.le_refl _) (.slice (some ⟨g',0,none⟩) (n+1) c')));have HF:Hid (RdR g (w'.setCell ⟨g,3,none⟩ (.slice (some ⟨g',0,none⟩) (n+1) c')) ts a bad (ns++[D9 k first z ns.length t]) lg tv (.slice (some ⟨g',0,none⟩) (n+1) c')):=hid ⟨dY,by
     have h3:=oI.out;unfold AB;rw[CW,Ek,oF.out,List.length_append,List.length_singleton,<-HN.out];exact Af h3 (fun k hk _=>Below.heap_setCell _ _ _ k (by show k≠g;omega)),HT.out.below fO.out,by rw[List.length_append,List.length_singleton,<-HN.out];exact hf,cx,eI⟩
   have pH:Hid (KR g (.slice A n c) (.slice (some ⟨g',0,none⟩) (n+1) c') w (w'.setCell ⟨g,3,none⟩ (.slice (some ⟨g',0,none⟩) (n+1) c'))):=hid ⟨fO.out.os,fO.out.tape,fO.out.output,fO.out.size,fun q h1 h2 h3=>(Below.heap_setCell _ _ _ q h2).trans (HM.out.2.2 q h1 h3),fun j hj=>by
     simp only[Value.ownBlock,Option.some.injEq]at hj;subst hj;rcases fW.out with h4|h4
     ·exact .inl h4
     ·right
      rw[h4];simp;omega⟩
   clear dY;go_wp2_with fail;go_end0;rw[HN.out]at pH HF ⊢;exact⟨_,rfl,pH.out,HF.out⟩
 ·have jz:Hid (D9 k first z ns.length t=⟨k,first,(ns.length:Int)-1,z,t⟩):=hid (by unfold D9;rw[if_neg (by rw[aD];decide),if_pos aD]);rw[aD]at aO;clear aD key;go_enter Tryz.func130,Tryz.ntmps130;go_wp2_with fail;refine(aO.out _).mono ?_
  rintro e w2 ⟨rfl,rfl⟩;go_upto_region 5 with fail;go_region
  all_goals go_upto_region 6 with fail
  obtain⟨w0,dO⟩:∃w0,w0=(w.alloc (.cells #[.int .i64 k,.int .i64 first,.int .i64 ((n:Int)-1),.int .i64 z,.string s] 95)).drew:=⟨_,rfl⟩;have hx0:Ext w w0:=by rw[dO];exact((Ext.refl w).alloc _).drew
  have mB:Blk w0 w.heap.size 95 #[.int .i64 k,.int .i64 first,.int .i64 ((n:Int)-1),.int .i64 z,.string s]:=by rw[dO];exact(Blk.new w _ _).drew
  have cB:w0.heap.size=w.heap.size+1:=by rw[dO];simp
  have am:=hid (HB.out.ext hx0);have mS:=hid (HR.out.ext hx0);have cX:=hid hx0;have aB:ns.length=n:=HN.out.symm;have pC:Hid (w.ownsRow (g+1) 95 5 (.slice A n c) n (Bz ns)):=hid (by have h:=HR.out;unfold AB at h;rw[aB]at h;exact h);have hne:∀q,(Value.slice A n c).ownBlock=some q->g≠q:=fun q hq=>by have:=AH pC.out q hq;omega
  have iM:Hid (∀w':World,(w0.alloc (.cells #[.int .i64 k,.int .i64 first,.int .i64 ((n:Int)-1),.int .i64 z,.string s] 95)).drew.grownBy w' (Value.slice A n c).ownBlock->Blk w' g 120 #[tv,.int .i64 (a:Int),.bool bad,.slice A n c,.bool lg]/\(Below g w0 w'/\∀q,q<w.heap.size->(Value.slice A n c).ownBlock≠some q->w'.heap[q]? =w.heap[q]?)):=hid (fun w' au=>by
   refine⟨?_,?_⟩
   ·have h1:=au.block g (show g<(w0.alloc (.cells #[.int .i64 k,.int .i64 first,.int .i64 ((n:Int)-1),.int .i64 z,.string s] 95)).drew.heap.size by simp;omega) (fun e=>hne g e.symm rfl);have h2:=(am.out.alloc (.cells #[.int .i64 k,.int .i64 first,.int .i64 ((n:Int)-1),.int .i64 z,.string s] 95)).drew;rw[aB]at h2;exact h1.trans h2
   ·refine⟨(((Below.refl g w0).alloc (by omega) _).drew).grown au (by simp;omega) (fun q hq=>by have:=AH pC.out q hq;omega),fun q hq hne2=> ?_⟩;have h1:=au.block q (show q<(w0.alloc (.cells #[.int .i64 k,.int .i64 first,.int .i64 ((n:Int)-1),.int .i64 z,.string s] 95)).drew.heap.size by simp;omega) (fun e=>hne2 e.symm);rw[h1];exact(Below.heap_alloc w0 _ q (by omega)).trans (hx0.block q hq))
  have jE:Hid (∀(j:Nat) (u:Value),[Value.int .i64 k,Value.int .i64 first,Value.int .i64 ((n:Int)-1),Value.int .i64 z,Value.string s][j]? =some u->(w0.alloc (.cells #[.int .i64 k,.int .i64 first,.int .i64 ((n:Int)-1),.int .i64 z,.string s] 95)).drew.cell? ((⟨w0.heap.size,0,none⟩:Addr).add j)=some u):=hid (BV w0 95 [.int .i64 k,.int .i64 first,.int .i64 ((n:Int)-1),.int .i64 z,.string s]);have dA:Hid ((w0.alloc (.cells #[.int .i64 k,.int .i64 first,.int .i64 ((n:Int)-1),.int .i64 z,.string s] 95)).drew.ownsRow (g+1) 95 5 (.slice A n c) n (Bz ns)):=hid (by
   have h:=Af mS.out (w':=(w0.alloc (.cells #[.int .i64 k,.int .i64 first,.int .i64 ((n:Int)-1),.int .i64 z,.string s] 95)).drew) (fun k _ hk=>Below.heap_alloc w0 _ k hk);rw[aB]at h;exact h)
  have ag:Hid (n+1<=maxLen):=hid (by unfold maxLen;omega);have aY:Hid ((n+1)*48<=140737488355328):=hid (by omega);have aZ:Hid (g+1<=(w0.alloc (.cells #[.int .i64 k,.int .i64 first,.int .i64 ((n:Int)-1),.int .i64 z,.string s] 95)).drew.heap.size):=hid (by simp;omega);have oF:Hid (ndC (D9 k first z ns.length t)=[.int .i64 k,.int .i64 first,.int .i64 ((n:Int)-1),.int .i64 z,.string s]):=hid (by rw[jz.out];(try rw[aB]);simp only[ndC,vU.out]);rw[cB]at jE;have HZ:=hid dO;have q0:=mB.five;obtain⟨⟨k0,k1,k2,k3,k4⟩,⟨f1,f2,f3,f4⟩,mr⟩:=am.out.five';rw[aB]at k3;clear hne hx0 mB dO aB;go_upto_region 6 with fail;rw[<-HZ.out];clear HZ
  go_region_law (refine step_append_lies _ rfl (.tmp 41) (.tmp 43) 32 rfl (g+1) 95 i0 _ 5 48 Tryz.underlying32 hi aE hz1 bx rfl (by decide) _ n (Bz ns) rfl dA.out ⟨w.heap.size+1,0,none⟩ 1 1 [.int .i64 k,.int .i64 first,.int .i64 ((n:Int)-1),.int .i64 z,.string s] rfl rfl jE.out (by simp[Value.oneCell']) (by decide) ag.out aY.out aZ.out _ rfl ?_;intro g' c' w' ai au hat hlt;have oI:=hid ai;have HM:=hid (iM.out w' au);have fW:=hid hat;clear ai au hat;obtain⟨⟨m0,m1,m2,m3,m4⟩,⟨n1,n2,n3,n4⟩,qD⟩:=HM.out.1.five')
  all_goals
   have dY:=HM.out.1.set_ 3 (.slice (some ⟨g',0,none⟩) (n+1) c');have fO:=hid ((Below.mono cX.out (Nat.le_of_lt eC)).trans (HM.out.2.1.setCell (p:=⟨g,3,none⟩) (Nat.le_refl _) (.slice (some ⟨g',0,none⟩) (n+1) c')));have HF:Hid (RdR g (w'.setCell ⟨g,3,none⟩ (.slice (some ⟨g',0,none⟩) (n+1) c')) ts a bad (ns++[D9 k first z ns.length t]) lg tv (.slice (some ⟨g',0,none⟩) (n+1) c')):=hid ⟨dY,by
     have h3:=oI.out;unfold AB;rw[CW,Ek,oF.out,List.length_append,List.length_singleton,<-HN.out];exact Af h3 (fun k hk _=>Below.heap_setCell _ _ _ k (by show k≠g;omega)),HT.out.below fO.out,by rw[List.length_append,List.length_singleton,<-HN.out];exact hf,cx,eI⟩
   have pH:Hid (KR g (.slice A n c) (.slice (some ⟨g',0,none⟩) (n+1) c') w (w'.setCell ⟨g,3,none⟩ (.slice (some ⟨g',0,none⟩) (n+1) c'))):=hid ⟨fO.out.os,fO.out.tape,fO.out.output,fO.out.size,fun q h1 h2 h3=>(Below.heap_setCell _ _ _ q h2).trans (HM.out.2.2 q h1 h3),fun j hj=>by
     simp only[Value.ownBlock,Option.some.injEq]at hj;subst hj;rcases fW.out with h4|h4
     ·exact .inl h4
     ·right
      rw[h4];simp;omega⟩
   clear dY;go_wp2_with fail;go_end0;rw[HN.out]at pH HF ⊢;exact⟨_,rfl,pH.out,HF.out⟩
def Sl(g:Nat)(ts:List Tok)(tv:Value)(F:FuncId):Prop:=∀w a ns lg nv,RdR g w ts a true ns lg tv nv->Calls Tryz.prog F #[.pointer (some ⟨g,0,none⟩)] w fun e w'=>e= .returned (.tuple #[])/\KR g nv nv w w'/\RdR g w' ts a true ns lg tv nv
theorem Pk(g:Nat)(ts:List Tok)(tv:Value):Sl g ts tv 240:=by
 intro w a ns lg nv h;have H:=hid h;obtain⟨⟨k0,k1,k2,k3,k4⟩,⟨f1,f2,f3,f4⟩,hg⟩:=h.blk.five';clear h;go_enter Tryz.func240,Tryz.ntmps240;go_wp2_with fail;go_quiet (fail);go_wp2_with fail
 (try simp only[Exit.inBlock,Exit.then])
 refine bodyPost_ret (results_none rfl _ _ _) rfl ?_
 have h3:=(H.out.keep ((Ext.refl w).drewN nq)).fail;exact⟨rfl,(KR.of_ext ((Ext.refl w).drewN nq)).trans h3.2,h3.1⟩
theorem M7(g:Nat)(ts:List Tok)(tv:Value):Sl g ts tv 206:=by
 intro w a ns lg nv h;have gI:=hid (fun W a ns lg nv h=>CF g W ts a true ns lg tv nv [94] h);rw[show str [94]= .string ⟨#[94]⟩ from rfl]at gI;simp only[Bool.not_true,Bool.false_and]at gI;have HE:Hid (KR g nv nv w w/\RdR g w ts a true ns lg tv nv):=hid ⟨KR.of_ext (Ext.refl w),h⟩;clear h;go_enter Tryz.func206,Tryz.ntmps206;go_wp2_with fail;refine(Pk g ts tv _ _ _ _ _ HE.out.2).mono ?_
 rintro e w1 ⟨rfl,hk,hr⟩;have HE:=hid (And.intro (HE.out.1.trans hk) hr);clear hk hr;go_wp2_with fail;refine(gI.out _ _ _ _ _ HE.out.2).mono ?_
 rintro e w2 ⟨rfl,hd⟩;have HE:=hid (And.intro (HE.out.1.trans (KR.of_ext hd.ext)) (HE.out.2.keep hd.ext));clear hd;go_wp2_with fail
 (try simp only[Exit.inBlock,Exit.then])
 first
  |refine bodyPost_ret (results_none rfl _ _ _) rfl ?_
  |refine bodyPost_end (results_none rfl _ _ _) rfl ?_
 exact⟨rfl,HE.out.1,HE.out.2⟩
theorem Na(g:Nat)(ts:List Tok)(tv:Value):Sl g ts tv 172:=by
 intro w a ns lg nv h;have gI:=hid (fun W a ns lg nv h=>CF g W ts a true ns lg tv nv [45] h);rw[show str [45]= .string ⟨#[45]⟩ from rfl]at gI;simp only[Bool.not_true,Bool.false_and]at gI;have HE:Hid (KR g nv nv w w/\RdR g w ts a true ns lg tv nv):=hid ⟨KR.of_ext (Ext.refl w),h⟩;clear h;go_enter Tryz.func172,Tryz.ntmps172;go_wp2_with fail;refine(gI.out _ _ _ _ _ HE.out.2).mono ?_
 rintro e w1 ⟨rfl,hd⟩;have HE:=hid (And.intro (HE.out.1.trans (KR.of_ext hd.ext)) (HE.out.2.keep hd.ext));clear hd;go_wp2_with fail;refine(M7 g ts tv _ _ _ _ _ HE.out.2).mono ?_
 rintro e w2 ⟨rfl,hk,hr⟩;have HE:=hid (And.intro (HE.out.1.trans hk) hr);clear hk hr;go_wp2_with fail
 (try simp only[Exit.inBlock,Exit.then])
 first
  |refine bodyPost_ret (results_none rfl _ _ _) rfl ?_
  |refine bodyPost_end (results_none rfl _ _ _) rfl ?_
 exact⟨rfl,HE.out.1,HE.out.2⟩
theorem Kx(g:Nat)(ts:List Tok)(tv:Value):Sl g ts tv 128:=by
 intro w a ns lg nv h;have gI:=hid (fun W a ns lg nv h=>CF g W ts a true ns lg tv nv [42] h);rw[show str [42]= .string ⟨#[42]⟩ from rfl]at gI;simp only[Bool.not_true,Bool.false_and]at gI;have fL:=hid (fun W a ns lg nv h=>CF g W ts a true ns lg tv nv [47] h);rw[show str [47]= .string ⟨#[47]⟩ from rfl]at fL;simp only[Bool.not_true,Bool.false_and]at fL;have HE:Hid (KR g nv nv w w/\RdR g w ts a true ns lg tv nv):=hid ⟨KR.of_ext (Ext.refl w),h⟩;clear h;go_enter Tryz.func128,Tryz.ntmps128;go_wp2_with fail;refine(Na g ts tv _ _ _ _ _ HE.out.2).mono ?_
 rintro e w1 ⟨rfl,hk,hr⟩;have HE:=hid (And.intro (HE.out.1.trans hk) hr);clear hk hr;go_wp2_with fail;go_loopw [] (fun wr=>KR g nv nv w wr/\RdR g wr ts a true ns lg tv nv) (fun _=>0)
 case atStart=>exact HE.out
 case round=>
  have HE:=hid hrel;clear hrel;go_wp2_with fail;refine(gI.out _ _ _ _ _ HE.out.2).mono ?_
  rintro e w2 ⟨rfl,hd⟩;have HE:=hid (And.intro (HE.out.1.trans (KR.of_ext hd.ext)) (HE.out.2.keep hd.ext));clear hd;go_wp2_with fail;refine(fL.out _ _ _ _ _ HE.out.2).mono ?_
  rintro e w3 ⟨rfl,hd⟩;have HE:=hid (And.intro (HE.out.1.trans (KR.of_ext hd.ext)) (HE.out.2.keep hd.ext));clear hd;go_wp2_with fail
  (try simp only[Exit.inBlock,Exit.then])
  first
   |refine bodyPost_ret (results_none rfl _ _ _) rfl ?_
   |refine bodyPost_end (results_none rfl _ _ _) rfl ?_
  exact⟨rfl,HE.out.1,HE.out.2⟩
theorem QO(g:Nat)(ts:List Tok)(tv:Value):Sl g ts tv 66:=by
 intro w a ns lg nv h;have gI:=hid (fun W a ns lg nv h=>CF g W ts a true ns lg tv nv [43] h);rw[show str [43]= .string ⟨#[43]⟩ from rfl]at gI;simp only[Bool.not_true,Bool.false_and]at gI;have fL:=hid (fun W a ns lg nv h=>CF g W ts a true ns lg tv nv [45] h);rw[show str [45]= .string ⟨#[45]⟩ from rfl]at fL;simp only[Bool.not_true,Bool.false_and]at fL;have HE:Hid (KR g nv nv w w/\RdR g w ts a true ns lg tv nv):=hid ⟨KR.of_ext (Ext.refl w),h⟩;clear h;go_enter Tryz.func66,Tryz.ntmps66;go_wp2_with fail;refine(Kx g ts tv _ _ _ _ _ HE.out.2).mono ?_
 rintro e w1 ⟨rfl,hk,hr⟩;have HE:=hid (And.intro (HE.out.1.trans hk) hr);clear hk hr;go_wp2_with fail;go_loopw [] (fun wr=>KR g nv nv w wr/\RdR g wr ts a true ns lg tv nv) (fun _=>0)
 case atStart=>exact HE.out
 case round=>
  have HE:=hid hrel;clear hrel;go_wp2_with fail;refine(gI.out _ _ _ _ _ HE.out.2).mono ?_
  rintro e w2 ⟨rfl,hd⟩;have HE:=hid (And.intro (HE.out.1.trans (KR.of_ext hd.ext)) (HE.out.2.keep hd.ext));clear hd;go_wp2_with fail;refine(fL.out _ _ _ _ _ HE.out.2).mono ?_
  rintro e w3 ⟨rfl,hd⟩;have HE:=hid (And.intro (HE.out.1.trans (KR.of_ext hd.ext)) (HE.out.2.keep hd.ext));clear hd;go_wp2_with fail
  (try simp only[Exit.inBlock,Exit.then])
  first
   |refine bodyPost_ret (results_none rfl _ _ _) rfl ?_
   |refine bodyPost_end (results_none rfl _ _ _) rfl ?_
  exact⟨rfl,HE.out.1,HE.out.2⟩
def Ao(g:Nat)(ts:List Tok)(tv:Value)(ns:List Nd)(nv:Value)(lg:Bool)(r:Option Ex × Nat)(w:World)(e:Ending)(w':World):Prop:=
 e= .returned (.tuple #[])/\∃nv',KR g nv nv' w w'/\match r with
  |(some x,b)=>RdR g w' ts b false (ns++Ah ns.length x) (lg || x.big) tv nv'
  |(none,b)=>∃ns' lg',RdR g w' ts b true ns' lg' tv nv'
section
variable {g:Nat} {ts:List Tok} {tv nv nv':Value} {ns:List Nd} {lg:Bool} {r:Option Ex × Nat} {w w':World} {e:Ending} {x:Ex} {b:Nat}
theorem Ao.some_(h:Ao g ts tv ns nv lg r w e w')(hr:r=(some x,b)):e= .returned (.tuple #[])/\∃nv',RdR g w' ts b false (ns++Ah ns.length x) (lg || x.big) tv nv'/\KR g nv nv' w w':=by
 subst hr;obtain⟨h1,nv',h2,h3⟩:=h;exact⟨h1,nv',h3,h2⟩
theorem Ao.none_(h:Ao g ts tv ns nv lg r w e w')(hr:r=(none,b)):e= .returned (.tuple #[])/\∃nv' ns' lg',RdR g w' ts b true ns' lg' tv nv'/\KR g nv nv' w w':=by
 subst hr;obtain⟨h1,nv',h2,ns',lg',h3⟩:=h;exact⟨h1,nv',ns',lg',h3,h2⟩
theorem Ao.mkN{ns':List Nd}{lg':Bool}(hr:r=(none,b))(hk:KR g nv nv' w w')(h:RdR g w' ts b true ns' lg' tv nv'):Ao g ts tv ns nv lg r w (.returned (.tuple #[])) w':=by
 subst hr;exact⟨rfl,nv',hk,ns',lg',h⟩
theorem Ao.mkS(hr:r=(some x,b))(hk:KR g nv nv' w w')(h:RdR g w' ts b false (ns++Ah ns.length x) (lg || x.big) tv nv'):Ao g ts tv ns nv lg r w (.returned (.tuple #[])) w':=by
 subst hr;exact⟨rfl,nv',hk,h⟩
theorem KR.kept1{n1 n2:Value}{q:Nat}{t:TypeId}{cs:Array Value}(hk:KR g n1 n2 w w')(hb:Blk w q t cs)(h1:q≠g)(h2:n1.ownBlock≠some q):Blk w' q t cs/\n2.ownBlock≠some q:=by
 refine⟨hk.blk hb h1 h2,fun e=> ?_⟩;have:=hb.lt;rcases hk.move _ e with h|h
 ·exact h2 h
 ·omega
theorem RdR.as(h:RdR g w ts b false ns lg tv nv){lg':Bool}(hl:lg=lg'){ns':List Nd}(hn:ns=ns'):RdR g w ts b false ns' lg' tv nv:=by subst hl;subst hn;exact h
end
theorem PA(p:Nat->Option Ex × Nat){ts:List Tok}{a:Nat}(hlt2:a<ts.length):CJ p ts a=(if ts[a].kind=3 then FB p ts a
   else if ts[a].kind=1 then (some (.leaf 1 ts[a].text),a+1)
   else if Bm ts[a].text≠0 then (match FB p ts (a+1) with|(none,b)=>(none,b)|(some x,b)=>(some (.un (Bm ts[a].text) 0 x),b))
   else if ts[a].text=[112,105] then (some (.leaf 3 []),a+1)
   else if ts[a].text=[101] then (some (.leaf 4 []),a+1)
   else (some (.leaf 2 ts[a].text),a+1)):=by
 have hs:isS ts a [40]=((ts[a].kind == 3) && (ts[a].text == [40])):=by
  unfold isS;rw[List.getElem?_eq_getElem hlt2]
 unfold CJ;rw[List.getElem?_eq_getElem hlt2];simp only;by_cases h3:ts[a].kind=3
 ·rw[if_pos h3,if_pos h3];unfold FB;rw[hs,h3];by_cases h4:ts[a].text=[40]
  ·rw[if_pos h4,h4];rfl
  ·rw[if_neg h4,if_neg (by simp[h4])]
 ·rw[if_neg h3,if_neg h3];split
  ·rfl
  ·split
   ·unfold FB;by_cases h5:isS ts (a+1) [40]=true
    ·rw[if_pos h5,if_pos h5];rcases p (a+1+1) with ⟨_|x,b⟩
     ·rfl
     ·simp only;by_cases h6:isS ts b [41]=true
      ·rw[if_pos h6,if_pos h6]
      ·rw[if_neg h6,if_neg h6]
    ·rw[if_neg h5,if_neg h5]
   ·rfl
theorem LU{B sz n:Nat}{e:TypeId}{w:World}{v:Value}{xs:List Value}(h:w.ownsRow B e sz v n xs)(g:Nat)(hg:v.ownBlock=some g):g<w.heap.size:=by
 rcases h.2 with ⟨rfl,h2⟩|⟨g',cap,cur,rfl,hb,hh,_⟩
 ·cases hg
 ·simp only[Value.ownBlock,Option.some.injEq]at hg;subst hg;rcases Nat.lt_or_ge g' w.heap.size with h|h
  ·exact h
  ·rw[Array.getElem?_eq_none h]at hh;cases hh
def Sg(g:Nat)(ts:List Tok)(tv:Value)(f a:Nat):Prop:=
 ∀w ns lg nv,RdR g w ts a false ns lg tv nv->Calls Tryz.prog 66 #[.pointer (some ⟨g,0,none⟩)] w (Ao g ts tv ns nv lg (AZ ts f a) w)
theorem NJ(c:UInt8)(h:FF c.toNat=true):Bm [c]=0/\([c]:List UInt8)≠[112,105]/\([c]:List UInt8)≠[101]:=by
 have hall:∀n:Fin 256,FF n.val=true->Bm [UInt8.ofNat n.val]=0/\n.val≠101:=by decide+kernel
 have h1:=hall ⟨c.toNat,UInt8.toNat_lt c⟩ h;rw[UInt8.ofNat_toNat]at h1;refine⟨h1.1,by simp,fun e=>h1.2 ?_⟩;injection e with e _
 rw[e];rfl
theorem Pl(g:Nat)(ts:List Tok)(tv:Value)(f a:Nat)(iI:∀t∈ts,BS t)(hs:∀a',a<a'->Sg g ts tv f a')(w:World)(ns:List Nd)(lg:Bool)(nv:Value)(h:RdR g w ts a false ns lg tv nv):
  Calls Tryz.prog 240 #[.pointer (some ⟨g,0,none⟩)] w (Ao g ts tv ns nv lg (CJ (AZ ts f) ts a) w):=by
 have H:=hid h;have HS:=hid hs;have a9:=h.row;obtain⟨A,c0,rfl,aa⟩:=h.tok;have ai:nv.ownBlock≠some w.heap.size:=fun e=>by have:=(LU h.row _ e);omega
 have zp:=hid ai;obtain⟨A2,c2,rfl⟩:=a9.shape;have cx:=h.le;have eI:=h.max;have ei:=h.few;obtain⟨⟨k0,k1,k2,k3,k4⟩,⟨f1,f2,f3,f4⟩,hg⟩:=h.blk.five';clear h hs a9 ai;obtain⟨n,gn⟩:∃n,n=ts.length:=⟨_,rfl⟩;rw[<-gn]at k0 cx eI;have kf:=hid gn;clear gn;rcases Nat.lt_or_ge a n with hlt|ew
 ·have hlt2:a<ts.length:=by rw[<-kf.out];exact hlt
  obtain⟨b,rfl,hbg,_,hc⟩:=aa (by omega);obtain⟨q0,q1,q2⟩:=hc a hlt2;have dX:ts[a].kind=1\/ts[a].kind=2\/(ts[a].kind=3/\∃c:UInt8,ts[a].text=[c]/\FF c.toNat=true):=by
   rcases iI ts[a] (List.getElem_mem hlt2) with ⟨h,_⟩|⟨h,_⟩|⟨h,c,h2,h3⟩
   ·exact .inl h
   ·exact .inr (.inl h)
   ·exact .inr (.inr ⟨h,c,h2,h3⟩)
  have hI:∀p,CJ p ts a=(if ts[a].kind=3 then FB p ts a
   else if ts[a].kind=1 then (some (.leaf 1 ts[a].text),a+1)
   else if Bm ts[a].text≠0 then (match FB p ts (a+1) with|(none,b)=>(none,b)|(some x,b)=>(some (.un (Bm ts[a].text) 0 x),b))
   else if ts[a].text=[112,105] then (some (.leaf 3 []),a+1)
   else if ts[a].text=[101] then (some (.leaf 4 []),a+1)
   else (some (.leaf 2 ts[a].text),a+1)):=fun p=>PA p hlt2
  have HP:=hid (hI (AZ ts f));have qC:isS ts a [40]=((ts[a].kind == 3) && (ts[a].text == [40])):=by
   unfold isS;rw[List.getElem?_eq_getElem hlt2]
  clear hI aa hc iI;generalize ts[a].kind=tk at *;generalize ts[a].text=tx at *;generalize ts[a].at_=ta at *;generalize hR:CJ (AZ ts f) ts a=R at *;clear hR;have z1:decide (n<=a)=false:=decide_eq_false (by omega);have z2:¬(n:Int)<=(a:Int):=by omega
  have a5:IntKind.i64.wrap ((a:Int)+1)=(a:Int)+1:=IntWalk.i64_in _ (by omega);go_enter Tryz.func240,Tryz.ntmps240;go_wp2_with fail;go_quiet (fail);obtain⟨w1,p8⟩:∃w1,w1=w.drewN nq:=⟨_,rfl⟩;rw[<-p8];have hd:Dr w w1:=by rw[p8];exact(Dr.refl w).drewN _
  have jL:w1.heap.size=w.heap.size:=by rw[hd.heap]
  have vF:g<w1.heap.size:=by omega
  rw[<-hd.cell]at k0 k1 k2 k3 k4 q0 q1 q2;have iV:=hid hd.ext;have uS:Hid ((Value.slice A2 ns.length c2).ownBlock≠some w1.heap.size):=hid (by rw[jL];exact zp.out);have kE:b<w1.heap.size:=by omega
  clear p8 hd jL f1 f2 f3 f4;go_upto_region 2 with fail;go_region;obtain⟨w2,ck⟩:∃w2,w2=(w1.alloc (.cells #[.int .i64 (tk:Int),.int .i64 (ta:Int),str tx] 122)).drew:=⟨_,rfl⟩;rw[<-ck];have ah:Ext w1 w2:=by rw[ck];exact((Ext.refl w1).alloc _).drew
  have hb2:Blk w2 w1.heap.size 122 #[.int .i64 (tk:Int),.int .i64 (ta:Int),str tx]:=by rw[ck];exact(Blk.new w1 _ _).drew
  have aP:=hid (iV.out.trans ah);have fH:=hid (H.out.keep (iV.out.trans ah));have aY:=hid hb2;have j0:=hb2.three';obtain⟨⟨k0,k1,k2,k3,k4⟩,⟨f1,f2,f3,f4⟩,nG⟩:=fH.out.blk.five';clear ck ah hb2 q0 q1 q2 z1 z2 kE;generalize w1.heap.size=gt at *;have kN:=hid vF;have oc:∀q:Nat,(lg || (Ex.leaf q []).big)=lg:=fun q=>by rw[Ex.big,Bool.or_false]
  clear oc;by_cases h1:tk=1
  ·subst h1;have jy:Hid (R=(some (.leaf 1 tx),a+1)):=hid (by rw[HP.out,if_neg (by decide),if_pos rfl]);clear HP HS qC dX;go_upto_region 6 with fail;have ac:=fH.out.stepR hlt2;obtain⟨w3,eP⟩:∃w3,w3=w2.setCell ⟨g,1,none⟩ (.int .i64 ((a:Int)+1)):=⟨_,rfl⟩;rw[<-eP]at ac ⊢;have d7:Blk w3 gt 122 #[.int .i64 ((1:Nat):Int),.int .i64 (ta:Int),str tx]:=by
    rw[eP];exact aY.out.far (p:=⟨g,1,none⟩) (by show gt≠g;have:=kN.out;omega) _
   have aZ:=hid d7;have ej:=hid ac.1;have ea:=hid ((KR.of_ext aP.out).trans ac.2);have j0:=d7.three';clear ac eP d7 k0 k1 k2 k3 k4 f1 f2 f3 f4;have bq:=hid (BX g w3 ts (a+1) false ns lg _ _ 1 0 0 tx ej.out (by omega));go_wp2_with fail;refine bq.out.mono ?_
   rintro e w4 ⟨nv2,rfl,dJ,dP⟩;have HE:=hid (And.intro (ea.out.trans dJ) dP);clear dJ dP;go_wp2_with fail
   (try simp only[Exit.inBlock,Exit.then])
   first
    |refine bodyPost_ret (results_none rfl _ _ _) rfl ?_
    |refine bodyPost_end (results_none rfl _ _ _) rfl ?_
   exact Ao.mkS jy.out HE.out.1 (HE.out.2.as (by rw[Ex.big,Bool.or_false]) rfl)
  ·have VM:((tk:Int) == 1)=false:=by rw[beq_eq_false_iff_ne];omega
   by_cases h3:tk=3
   ·subst h3;obtain⟨t7,ju,nH⟩:Bm tx=0/\tx≠[112,105]/\tx≠[101]:=by
     rcases dX with h|h|⟨_,c,h,hs⟩
     ·omega
     ·omega
     ·rw[h];exact NJ c hs
    have hpb:(tx == [112,105])=false:=by rw[beq_eq_false_iff_ne];exact ju
    have xU:(tx == [101])=false:=by rw[beq_eq_false_iff_ne];exact nH
    have jy:Hid (R=FB (AZ ts f) ts a):=hid (by rw[HP.out,if_pos rfl]);have fN:=hid (FH w2 tx);rw[t7]at fN;have ng:=hid (fun W v h=>CF g W ts a false ns lg v (.slice A2 ns.length c2) [40] h);rw[show str [40]= .string ⟨#[40]⟩ from rfl]at ng;simp only[Bool.not_false,Bool.true_and]at ng;clear HP qC dX t7 ju nH h1;go_wp2_with fail;refine fN.out.mono ?_
    rintro e w3 ⟨rfl,ab⟩;have ay:=hid (aP.out.trans ab);have bf:=fH.out.keep ab;have ej:=hid bf;have j0:=(aY.out.ext ab).three';clear ab bf k0 k1 k2 k3 k4 f1 f2 f3 f4;obtain⟨u1,dD⟩:∃u,isS ts a [40]=u:=⟨_,rfl⟩;rw[dD]at ng;cases u1
    ·have HD:=hid (jy.out.trans (Ow dD));clear dD HS;go_wp2_with fail;refine(ng.out _ _ ej.out).mono ?_
     rintro e w4 ⟨rfl,nI⟩;have dP:=ej.out.keep nI.ext;have dg:=hid dP;have bu:=hid (ay.out.trans nI.ext);obtain⟨⟨k0,k1,k2,k3,k4⟩,⟨f1,f2,f3,f4⟩,qG⟩:=dP.blk.five';clear nI dP;go_wp2_with fail
     (try simp only[Exit.inBlock,Exit.then])
     first
      |refine bodyPost_ret (results_none rfl _ _ _) rfl ?_
      |refine bodyPost_end (results_none rfl _ _ _) rfl ?_
     have h5:=dg.out.fail;exact Ao.mkN HD.out ((KR.of_ext bu.out).trans h5.2) h5.1
    ·have lK:=hid dD;clear dD;go_wp2_with fail;refine(ng.out _ _ ej.out).mono ?_
     rintro e w4 ⟨rfl,nI⟩;have dP:=ej.out.keep nI.ext;have dg:=hid dP;have bu:=hid (ay.out.trans nI.ext);obtain⟨⟨k0,k1,k2,k3,k4⟩,⟨f1,f2,f3,f4⟩,qG⟩:=dP.blk.five';clear nI dP;go_upto_region 25 with fail;have ac:=dg.out.stepR hlt2;obtain⟨w5,eh⟩:∃w5,w5=w4.setCell ⟨g,1,none⟩ (.int .i64 ((a:Int)+1)):=⟨_,rfl⟩;rw[<-eh]at ac ⊢;have ex:=hid ((KR.of_ext bu.out).trans ac.2);have lM:=hid (HS.out (a+1) (by omega) w5 ns lg _ ac.1);clear ac eh k0 k1 k2 k3 k4 f1 f2 f3 f4;go_wp2_with fail;refine lM.out.mono ?_
     intro e w6 al;obtain⟨r,hr⟩:∃r,AZ ts f (a+1)=r:=⟨_,rfl⟩;obtain⟨_|x,b2⟩:=r
     ·obtain⟨rfl,bC,jp,jr,bc,hk⟩:=al.none_ hr;have HD:=hid (jy.out.trans (Ke lK.out hr));have gU:=hid (De g w6 ts b2 true jp jr _ bC [41] bc);rw[show str [41]= .string ⟨#[41]⟩ from rfl]at gU;simp only[Bool.not_true,Bool.false_and,Bool.false_eq_true,if_false,Bool.not_false]at gU;have ff:=hid (ex.out.trans hk);clear al hr bc hk;go_wp2_with fail;refine gU.out.mono ?_
      rintro e w7 ⟨rfl,gx,od⟩;have HE:=hid (And.intro (ff.out.trans gx) od);clear gx od;go_wp2_with fail
      (try simp only[Exit.inBlock,Exit.then])
      first
       |refine bodyPost_ret (results_none rfl _ _ _) rfl ?_
       |refine bodyPost_end (results_none rfl _ _ _) rfl ?_
      exact Ao.mkN HD.out HE.out.1 HE.out.2
     ·obtain⟨rfl,bC,bc,hk⟩:=al.some_ hr;have iR:=hid hr;have gU:=hid (De g w6 ts b2 false _ _ _ bC [41] bc);rw[show str [41]= .string ⟨#[41]⟩ from rfl]at gU;simp only[Bool.not_false,Bool.true_and]at gU;have ff:=hid (ex.out.trans hk);clear al hr bc hk;obtain⟨u2,dm⟩:∃u,isS ts b2 [41]=u:=⟨_,rfl⟩;rw[dm]at gU;cases u2
      ·have HD:=hid (jy.out.trans (Mg lK.out iR.out dm));simp only[Bool.false_eq_true,if_false,Bool.not_false]at gU;clear dm;go_wp2_with fail;refine gU.out.mono ?_
       rintro e w7 ⟨rfl,gx,od⟩;have HE:=hid (And.intro (ff.out.trans gx) od);clear gx od;go_wp2_with fail
       (try simp only[Exit.inBlock,Exit.then])
       first
        |refine bodyPost_ret (results_none rfl _ _ _) rfl ?_
        |refine bodyPost_end (results_none rfl _ _ _) rfl ?_
       exact Ao.mkN HD.out HE.out.1 HE.out.2
      ·have HD:=hid (jy.out.trans (Ov lK.out iR.out dm));simp only[if_true,Bool.not_true]at gU;clear dm;go_wp2_with fail;refine gU.out.mono ?_
       rintro e w7 ⟨rfl,gx,od⟩;have HE:=hid (And.intro (ff.out.trans gx) od);clear gx od;go_wp2_with fail
       (try simp only[Exit.inBlock,Exit.then])
       first
        |refine bodyPost_ret (results_none rfl _ _ _) rfl ?_
        |refine bodyPost_end (results_none rfl _ _ _) rfl ?_
       exact Ao.mkS HD.out HE.out.1 HE.out.2
   ·have hk2:tk=2:=by
     rcases dX with h|h|⟨h,_⟩
     ·exact absurd h h1
     ·exact h
     ·exact absurd h h3
    subst hk2;clear dX qC VM;by_cases ju:tx=[112,105]
    ·have hpb:(tx == [112,105])=true:=by rw[beq_iff_eq];exact ju
     have xU:(tx == [101])=false:=by rw[beq_eq_false_iff_ne,ju];decide
     have jy:Hid (R=(some (.leaf 3 []),a+1)):=hid (by rw[HP.out,if_neg (by decide),if_neg (by decide),ju];rfl);clear HP HS ju;go_upto_region 9 with fail;have ac:=fH.out.stepR hlt2;obtain⟨w3,eP⟩:∃w3,w3=w2.setCell ⟨g,1,none⟩ (.int .i64 ((a:Int)+1)):=⟨_,rfl⟩;rw[<-eP]at ac ⊢;have d7:Blk w3 gt 122 #[.int .i64 ((2:Nat):Int),.int .i64 (ta:Int),str tx]:=by
      rw[eP];exact aY.out.far (p:=⟨g,1,none⟩) (by show gt≠g;have:=kN.out;omega) _
     have aZ:=hid d7;have ej:=hid ac.1;have ea:=hid ((KR.of_ext aP.out).trans ac.2);have j0:=d7.three';clear ac eP d7 k0 k1 k2 k3 k4 f1 f2 f3 f4;have bq:=hid (BX g w3 ts (a+1) false ns lg _ _ 3 0 0 [] ej.out (by omega));rw[show str []= .string ⟨#[]⟩ from rfl]at bq;go_wp2_with fail;refine bq.out.mono ?_
     rintro e w4 ⟨nv2,rfl,dJ,dP⟩;have HE:=hid (And.intro (ea.out.trans dJ) dP);clear dJ dP;go_wp2_with fail
     (try simp only[Exit.inBlock,Exit.then])
     first
      |refine bodyPost_ret (results_none rfl _ _ _) rfl ?_
      |refine bodyPost_end (results_none rfl _ _ _) rfl ?_
     exact Ao.mkS jy.out HE.out.1 (HE.out.2.as (by rw[Ex.big,Bool.or_false]) rfl)
    ·have hpb:(tx == [112,105])=false:=by rw[beq_eq_false_iff_ne];exact ju
     by_cases nH:tx=[101]
     ·have xU:(tx == [101])=true:=by rw[beq_iff_eq];exact nH
      have jy:Hid (R=(some (.leaf 4 []),a+1)):=hid (by rw[HP.out,if_neg (by decide),if_neg (by decide),nH];rfl);clear HP HS ju nH;go_upto_region 9 with fail;have ac:=fH.out.stepR hlt2;obtain⟨w3,eP⟩:∃w3,w3=w2.setCell ⟨g,1,none⟩ (.int .i64 ((a:Int)+1)):=⟨_,rfl⟩;rw[<-eP]at ac ⊢;have d7:Blk w3 gt 122 #[.int .i64 ((2:Nat):Int),.int .i64 (ta:Int),str tx]:=by
       rw[eP];exact aY.out.far (p:=⟨g,1,none⟩) (by show gt≠g;have:=kN.out;omega) _
      have aZ:=hid d7;have ej:=hid ac.1;have ea:=hid ((KR.of_ext aP.out).trans ac.2);have j0:=d7.three';clear ac eP d7 k0 k1 k2 k3 k4 f1 f2 f3 f4;have bq:=hid (BX g w3 ts (a+1) false ns lg _ _ 4 0 0 [] ej.out (by omega));rw[show str []= .string ⟨#[]⟩ from rfl]at bq;go_wp2_with fail;refine bq.out.mono ?_
      rintro e w4 ⟨nv2,rfl,dJ,dP⟩;have HE:=hid (And.intro (ea.out.trans dJ) dP);clear dJ dP;go_wp2_with fail
      (try simp only[Exit.inBlock,Exit.then])
      first
       |refine bodyPost_ret (results_none rfl _ _ _) rfl ?_
       |refine bodyPost_end (results_none rfl _ _ _) rfl ?_
      exact Ao.mkS jy.out HE.out.1 (HE.out.2.as (by rw[Ex.big,Bool.or_false]) rfl)
     ·have xU:(tx == [101])=false:=by rw[beq_eq_false_iff_ne];exact nH
      have fN:=hid (fun W=>FH W tx);by_cases hf0:Bm tx=0
      ·rw[hf0]at fN;have jy:Hid (R=(some (.leaf 2 tx),a+1)):=hid (by rw[HP.out,if_neg (by decide),if_neg (by decide),if_neg (by rw[hf0];simp),if_neg ju,if_neg nH]);clear HP HS ju nH hf0;go_wp2_with fail;refine(fN.out _).mono ?_
       rintro e w2' ⟨rfl,ab⟩;have re:=hid (aP.out.trans ab);have bf:=fH.out.keep ab;have rn:=hid bf;have np:=hid (aY.out.ext ab);have j0:=np.out.three';obtain⟨⟨k0,k1,k2,k3,k4⟩,⟨f1,f2,f3,f4⟩,nG⟩:=bf.blk.five';clear ab bf aP fH aY;generalize re=aP at *;generalize rn=fH at *;generalize np=aY at *;generalize w2'=w2 at *;go_upto_region 22 with fail;have ac:=fH.out.stepR hlt2;obtain⟨w3,eP⟩:∃w3,w3=w2.setCell ⟨g,1,none⟩ (.int .i64 ((a:Int)+1)):=⟨_,rfl⟩;rw[<-eP]at ac ⊢;have d7:Blk w3 gt 122 #[.int .i64 ((2:Nat):Int),.int .i64 (ta:Int),str tx]:=by
        rw[eP];exact aY.out.far (p:=⟨g,1,none⟩) (by show gt≠g;have:=kN.out;omega) _
       have aZ:=hid d7;have ej:=hid ac.1;have ea:=hid ((KR.of_ext aP.out).trans ac.2);have j0:=d7.three';clear ac eP d7 k0 k1 k2 k3 k4 f1 f2 f3 f4;have bq:=hid (BX g w3 ts (a+1) false ns lg _ _ 2 0 0 tx ej.out (by omega));go_wp2_with fail;refine bq.out.mono ?_
       rintro e w4 ⟨nv2,rfl,dJ,dP⟩;have HE:=hid (And.intro (ea.out.trans dJ) dP);clear dJ dP;go_wp2_with fail
       (try simp only[Exit.inBlock,Exit.then])
       first
        |refine bodyPost_ret (results_none rfl _ _ _) rfl ?_
        |refine bodyPost_end (results_none rfl _ _ _) rfl ?_
       exact Ao.mkS jy.out HE.out.1 (HE.out.2.as (by rw[Ex.big,Bool.or_false]) rfl)
      ·have X0:=HH tx hf0;have pD:Hid (R=(match FB (AZ ts f) ts (a+1) with|(none,b)=>(none,b)|(some x,b)=>(some (.un (Bm tx) 0 x),b))):=hid (by rw[HP.out,if_neg (by decide),if_neg (by decide),if_pos hf0]);generalize hfk:Bm tx=fk at *;have Z5:(0:Int)<(fk:Int):=by omega
       have wh:=hid X0;clear HP ju nH hf0 hfk;go_wp2_with fail;refine(fN.out _).mono ?_
       rintro e w2' ⟨rfl,ab⟩;have re:=hid (aP.out.trans ab);have bf:=fH.out.keep ab;have rn:=hid bf;have np:=hid (aY.out.ext ab);have j0:=np.out.three';obtain⟨⟨k0,k1,k2,k3,k4⟩,⟨f1,f2,f3,f4⟩,nG⟩:=bf.blk.five';clear ab bf aP fH aY;generalize re=aP at *;generalize rn=fH at *;generalize np=aY at *;generalize w2'=w2 at *;go_upto_region 15 with fail;have ac:=fH.out.stepR hlt2;obtain⟨w3,eP⟩:∃w3,w3=w2.setCell ⟨g,1,none⟩ (.int .i64 ((a:Int)+1)):=⟨_,rfl⟩;rw[<-eP]at ac ⊢;have d7:Blk w3 gt 122 #[.int .i64 ((2:Nat):Int),.int .i64 (ta:Int),str tx]:=by
        rw[eP];exact aY.out.far (p:=⟨g,1,none⟩) (by show gt≠g;have:=kN.out;omega) _
       have aZ:=hid d7;have ej:=hid ac.1;have ea:=hid ((KR.of_ext aP.out).trans ac.2);have j0:=d7.three';clear ac eP d7 k0 k1 k2 k3 k4 f1 f2 f3 f4;have qE:gt≠g:=by have:=kN.out;omega
       have gU:=hid (De g w3 ts (a+1) false ns lg _ _ [40] ej.out);rw[show str [40]= .string ⟨#[40]⟩ from rfl]at gU;simp only[Bool.not_false,Bool.true_and]at gU;obtain⟨u1,dD⟩:∃u,isS ts (a+1) [40]=u:=⟨_,rfl⟩;rw[dD]at gU;cases u1
       ·have HD:Hid (R=(none,a+1)):=hid (by rw[pD.out,Ow dD]);simp only[Bool.false_eq_true,if_false,Bool.not_false]at gU;clear dD HS pD;go_wp2_with fail;refine gU.out.mono ?_
        rintro e w4 ⟨rfl,dJ,dP⟩;have HE:=hid (And.intro (ea.out.trans dJ) dP);clear dJ dP;go_wp2_with fail;refine(QO g ts _ _ _ _ _ _ HE.out.2).mono ?_
        rintro e w5 ⟨rfl,i5,cG⟩;have eV:=hid (And.intro (HE.out.1.trans i5) cG);have eA:=hid (De g w5 ts _ true _ _ _ _ [41] cG);rw[show str [41]= .string ⟨#[41]⟩ from rfl]at eA;simp only[Bool.not_true,Bool.false_and,Bool.false_eq_true,if_false,Bool.not_false]at eA;clear i5 cG;go_wp2_with fail;refine eA.out.mono ?_
        rintro e w6 ⟨rfl,iG,iA⟩;have iO:=hid (And.intro (eV.out.1.trans iG) iA);obtain⟨⟨k0,k1,k2,k3,k4⟩,_,ow⟩:=iA.blk.five';clear iG iA;go_wp2_with fail
        (try simp only[Exit.inBlock,Exit.then])
        first
         |refine bodyPost_ret (results_none rfl _ _ _) rfl ?_
         |refine bodyPost_end (results_none rfl _ _ _) rfl ?_
        exact Ao.mkN HD.out iO.out.1 iO.out.2
       ·simp only[if_true,Bool.not_true]at gU;have lK:=hid dD;clear dD;go_wp2_with fail;refine gU.out.mono ?_
        rintro e w4 ⟨rfl,dJ,dP⟩;have iv:=hid (ea.out.trans dJ);have V8:=hid (dJ.kept1 aZ.out qE uS.out);have lM:=hid (HS.out (a+1+1) (by omega) w4 ns lg _ dP);have dV:=DE ts f (a+1+1) dP.le;clear dJ dP HS;go_wp2_with fail;refine lM.out.mono ?_
        intro e w5 al;obtain⟨r,hr⟩:∃r,AZ ts f (a+1+1)=r:=⟨_,rfl⟩;rw[hr]at dV;obtain⟨_|x,b2⟩:=r
        ·obtain⟨rfl,bC,jp,jr,bc,hk⟩:=al.none_ hr;have HD:Hid (R=(none,b2)):=hid (by rw[pD.out,Ke lK.out hr]);have eA:=hid (De g w5 ts b2 true jp jr _ bC [41] bc);rw[show str [41]= .string ⟨#[41]⟩ from rfl]at eA;simp only[Bool.not_true,Bool.false_and,Bool.false_eq_true,if_false,Bool.not_false]at eA;have ex:=hid (iv.out.trans hk);clear al hr bc hk dV pD;go_wp2_with fail;refine eA.out.mono ?_
         rintro e w6 ⟨rfl,iG,iA⟩;have iO:=hid (And.intro (ex.out.trans iG) iA);obtain⟨⟨k0,k1,k2,k3,k4⟩,_,ow⟩:=iA.blk.five';clear iG iA;go_wp2_with fail
         (try simp only[Exit.inBlock,Exit.then])
         first
          |refine bodyPost_ret (results_none rfl _ _ _) rfl ?_
          |refine bodyPost_end (results_none rfl _ _ _) rfl ?_
         exact Ao.mkN HD.out iO.out.1 iO.out.2
        ·obtain⟨rfl,bC,bc,hk⟩:=al.some_ hr;have iR:=hid hr;have tW:=dV.2.2 x rfl;simp only at tW;have eA:=hid (De g w5 ts b2 false _ _ _ bC [41] bc);rw[show str [41]= .string ⟨#[41]⟩ from rfl]at eA;simp only[Bool.not_false,Bool.true_and]at eA;have ex:=hid (iv.out.trans hk);have V7:=hid (hk.kept1 V8.out.1 qE V8.out.2);have XY:=bc.few;clear al hr bc hk dV;obtain⟨u2,dm⟩:∃u,isS ts b2 [41]=u:=⟨_,rfl⟩;rw[dm]at eA;cases u2
         ·have HD:Hid (R=(none,b2)):=hid (by rw[pD.out,Mg lK.out iR.out dm]);simp only[Bool.false_eq_true,if_false,Bool.not_false]at eA;clear dm pD;go_wp2_with fail;refine eA.out.mono ?_
          rintro e w6 ⟨rfl,iG,iA⟩;have iO:=hid (And.intro (ex.out.trans iG) iA);obtain⟨⟨k0,k1,k2,k3,k4⟩,_,ow⟩:=iA.blk.five';clear iG iA;go_wp2_with fail
          (try simp only[Exit.inBlock,Exit.then])
          first
           |refine bodyPost_ret (results_none rfl _ _ _) rfl ?_
           |refine bodyPost_end (results_none rfl _ _ _) rfl ?_
          exact Ao.mkN HD.out iO.out.1 iO.out.2
         ·have HD:Hid (R=(some (.un fk 0 x),b2+1)):=hid (by rw[pD.out,Ov lK.out iR.out dm]);simp only[if_true,Bool.not_true]at eA;clear dm pD;go_wp2_with fail;refine eA.out.mono ?_
          rintro e w6 ⟨rfl,iG,iA⟩;have ff:=hid (ex.out.trans iG);have Zi:=hid (iG.kept1 V7.out.1 qE V7.out.2);have zh:=hid iA;obtain⟨⟨k0,k1,k2,k3,k4⟩,_,ow⟩:=iA.blk.five';have j0:=Zi.out.1.three';clear iG iA;go_wp2_with fail;refine(fN.out _).mono ?_
          rintro e w7 ⟨rfl,ch⟩;have iN:=hid (ff.out.trans (KR.of_ext ch));have bq:=hid (BX g w7 ts (b2+1) false _ _ _ bC (fk:Int) 0 0 [] (zh.out.keep ch) (by omega));rw[show str []= .string ⟨#[]⟩ from rfl]at bq;clear ch;go_wp2_with fail;refine bq.out.mono ?_
          rintro e w8 ⟨nv2,rfl,dw,cw⟩;have aD:Aq (fk:Int)=1:=by unfold Aq;have:=wh.out;rw[if_neg (by omega),if_neg (by omega),if_neg (by omega)]
          have fx:D9 (fk:Int) 0 0 (ns++Ah ns.length x).length []=⟨(fk:Int),(((ns++Ah ns.length x).length:Nat):Int)-1,0,0,[]⟩:=by unfold D9;rw[if_pos aD]
          rw[fx]at cw;have pY:=x.size_pos;have h10:(fk == 10)=false:=by
           rw[beq_eq_false_iff_ne];have:=wh.out;omega
          have hbg:(lg || x.big)=(lg || (Ex.un fk 0 x).big):=by rw[Ex.big,h10,Bool.false_and,Bool.false_or]
          have HF:Hid (RdR g w8 ts (b2+1) false (ns++Ah ns.length (.un fk 0 x)) (lg || (Ex.un fk 0 x).big) _ nv2):=hid (cw.as hbg (by
           rw[BP,<-List.append_assoc,Bl,show ((ns.length+x.size-1:Nat):Int)=((ns.length+x.size:Nat):Int)-1 by omega]))
          have kj:=hid (iN.out.trans dw);clear dw cw aD fx h10 hbg;go_wp2_with fail
          (try simp only[Exit.inBlock,Exit.then])
          first
           |refine bodyPost_ret (results_none rfl _ _ _) rfl ?_
           |refine bodyPost_end (results_none rfl _ _ _) rfl ?_
          exact Ao.mkS HD.out kj.out HF.out
 ·have HI:Hid (CJ (AZ ts f) ts a=(none,a)):=hid (by
   unfold CJ;rw[List.getElem?_eq_none (by rw[<-kf.out];exact ew)])
  have z1:decide (n<=a)=true:=decide_eq_true ew;have z2:(n:Int)<=(a:Int):=by omega
  clear aa;go_enter Tryz.func240,Tryz.ntmps240;go_wp2_with fail;go_quiet (fail);go_wp2_with fail
  (try simp only[Exit.inBlock,Exit.then])
  refine bodyPost_ret (results_none rfl _ _ _) rfl ?_
  have h3:=(H.out.keep ((Ext.refl w).drewN nq)).fail;exact Ao.mkN HI.out ((KR.of_ext ((Ext.refl w).drewN nq)).trans h3.2) h3.1
theorem OD{z:Int}{n:Nat}{x:Ex}(h:z=(n:Int)\/z= -(n:Int)):(Ex.un 10 z x).big=(decide (64<n) || x.big):=by
 rw[Ex.big];have:(!(decide (-64<=z/\z<=64)))=decide (64<n):=by
  rw[<-decide_not,decide_eq_decide];omega
 rw[this];rfl
theorem Ej{z:Int}{len:Nat}:D9 10 0 z len []=⟨10,(len:Int)-1,0,z,[]⟩:=by
 unfold D9;rw[if_pos (by decide)]
theorem IY{c:Nat}(h:Ca c=true):(48<=c/\c<=57)\/c=46:=by
 unfold Ca C5 at h;simp only[Bool.or_eq_true,Bool.and_eq_true,decide_eq_true_eq,beq_iff_eq]at h;exact h
theorem II(g:Nat)(ts:List Tok)(tv:Value)(f a:Nat)(iI:∀t∈ts,BS t)(hs:∀a',a<a'->Sg g ts tv f a')(w:World)(ns:List Nd)(lg:Bool)(nv:Value)(h:RdR g w ts a false ns lg tv nv):
  Calls Tryz.prog 206 #[.pointer (some ⟨g,0,none⟩)] w (Ao g ts tv ns nv lg (AQ (AZ ts f) ts a) w):=by
 have fW:=hid (Pl g ts tv f a iI hs w ns lg nv h);have fm:=IW (DE ts f) a h.le;have eI:=h.max;have eO:=hid iI;clear h hs iI;have rJ:=hid (fun W a bad ns lg nv h=>CF g W ts a bad ns lg tv nv [94] h);have ve:=hid (fun W a bad ns lg nv h=>CF g W ts a bad ns lg tv nv [45] h);rw[show str [94]= .string ⟨#[94]⟩ from rfl]at rJ;rw[show str [45]= .string ⟨#[45]⟩ from rfl]at ve;go_enter Tryz.func206,Tryz.ntmps206;go_wp2_with fail;refine fW.out.mono ?_
 intro e w1 al;obtain⟨r,hr⟩:∃r,CJ (AZ ts f) ts a=r:=⟨_,rfl⟩;rw[hr]at fm;obtain⟨_|x,b⟩:=r
 ·obtain⟨rfl,bC,jp,jr,bc,hk⟩:=al.none_ hr;have HD:=hid (LP hr);have HE:=hid (And.intro hk bc);have rI:=hid (rJ.out w1 b true jp jr bC bc);simp only[Bool.not_true,Bool.false_and]at rI;clear al hr bc hk fm;go_wp2_with fail;refine rI.out.mono ?_
  rintro e w2 ⟨rfl,hd⟩;have eV:=hid (And.intro (HE.out.1.trans (KR.of_ext hd.ext)) (HE.out.2.keep hd.ext));clear hd;go_wp2_with fail
  (try simp only[Exit.inBlock,Exit.then])
  first
   |refine bodyPost_ret (results_none rfl _ _ _) rfl ?_
   |refine bodyPost_end (results_none rfl _ _ _) rfl ?_
  exact Ao.mkN HD.out eV.out.1 eV.out.2
 ·obtain⟨rfl,bC,bc,hk⟩:=al.some_ hr;have tW:=fm.2.2 x rfl;have em:=fm.2.1;simp only at tW em;have HR:=hid hr;have HE:=hid (And.intro hk bc);have rI:=hid (rJ.out w1 b false _ _ bC bc);simp only[Bool.not_false,Bool.true_and]at rI;clear al hr bc hk fm;obtain⟨u1,dD⟩:∃u,isS ts b [94]=u:=⟨_,rfl⟩;rw[dD]at rI;cases u1
  ·have HD:=hid (KL HR.out dD);clear dD;go_wp2_with fail;refine rI.out.mono ?_
   rintro e w2 ⟨rfl,hd⟩;have eV:=hid (And.intro (HE.out.1.trans (KR.of_ext hd.ext)) (HE.out.2.keep hd.ext));clear hd;go_wp2_with fail
   (try simp only[Exit.inBlock,Exit.then])
   first
    |refine bodyPost_ret (results_none rfl _ _ _) rfl ?_
    |refine bodyPost_end (results_none rfl _ _ _) rfl ?_
   exact Ao.mkS HD.out eV.out.1 eV.out.2
  ·have i4:=Cb dD;have lK:=hid dD;have sV:IntKind.i64.wrap ((b:Int)+1)=(b:Int)+1:=IntWalk.i64_in _ (by omega);clear dD;go_wp2_with fail;refine rI.out.mono ?_
   rintro e w2 ⟨rfl,hd⟩;have hr2:=HE.out.2.keep hd.ext;have fH:=hid hr2;have ey:=hid (HE.out.1.trans (KR.of_ext hd.ext));obtain⟨⟨k0,k1,k2,k3,k4⟩,⟨f1,f2,f3,f4⟩,nG⟩:=hr2.blk.five';clear hd hr2;go_upto_region 4 with fail;have ac:=fH.out.stepR i4;obtain⟨w3,eP⟩:∃w3,w3=w2.setCell ⟨g,1,none⟩ (.int .i64 ((b:Int)+1)):=⟨_,rfl⟩;rw[<-eP]at ac ⊢;have ea:=hid (ey.out.trans ac.2);have ej:=hid ac.1;have kM:=hid (ve.out w3 (b+1) false _ _ bC ac.1);simp only[Bool.not_false,Bool.true_and]at kM;clear ac eP k0 k1 k2 k3 k4 f1 f2 f3 f4;obtain⟨u2,dm⟩:∃u,isS ts (b+1) [45]=u:=⟨_,rfl⟩;rw[dm]at kM;cases u2
   ·have uL:=hid dm;clear dm;go_wp2_with fail;refine kM.out.mono ?_
    rintro e w5 ⟨rfl,hd⟩;have cI:=hid (ej.out.keep hd.ext);have ex:=hid (ea.out.trans (KR.of_ext hd.ext));clear hd;obtain⟨c1,hc1⟩:∃c1,c1=b+1:=⟨_,rfl⟩;rw[<-hc1]at cI;have rT:=hid hc1;have aA:Hid (Er ts c1=none->AQ (AZ ts f) ts a=(none,c1)):=hid (fun h=>by rw[hc1]at h ⊢;exact JC HR.out lK.out uL.out h);obtain⟨A,c0,rfl,aa⟩:=cI.out.tok;have qw:=cI.out.le;have mt:=cI.out.few;obtain⟨⟨k0,k1,k2,k3,k4⟩,⟨f1,f2,f3,f4⟩,ox⟩:=cI.out.blk.five';obtain⟨n,gn⟩:∃n,n=ts.length:=⟨_,rfl⟩;rw[<-gn]at k0 qw eI;have kf:=hid gn;have cD:=aa;clear gn hc1 aa;generalize hlx:(lg || x.big)=lgx at *;have zC:=hid hlx;clear hlx;rcases Nat.lt_or_ge c1 n with hlt|ew
    ·have hlt2:c1<ts.length:=by rw[<-kf.out];exact hlt
     obtain⟨bt,yd,hbg,kE,hc⟩:=cD (by omega);subst yd;obtain⟨q0,q1,q2⟩:=hc c1 hlt2;have hI:Er ts c1=if ts[c1].kind=1 then CO ts[c1].text else none:=by
      unfold Er;rw[List.getElem?_eq_getElem hlt2]
     have dX:ts[c1].kind=1->An Ca ts[c1].text=ts[c1].text.length:=fun h1=>by
      rcases eO.out ts[c1] (List.getElem_mem hlt2) with ⟨_,_,h,_⟩|⟨h,_⟩|⟨h,_⟩
      ·exact h
      ·omega
      ·omega
     have fN:=hid dX;clear hc dX cD;generalize ts[c1].kind=tk at *;generalize ts[c1].text=tx at *;have z1:decide (n<=c1)=false:=decide_eq_false (by omega);by_cases hk:tk=1
     ·subst hk;rw[if_pos rfl]at hI;by_cases hl2:tx.length<=2
      ·have z2:decide (2<tx.length)=false:=decide_eq_false (by omega);have z3:¬(2:Int)<(tx.length:Int):=by omega
       have fw:=fN.out rfl;have rk:=hid fw;obtain⟨cf,x9⟩:∃cf:World->Nat,∀W:World,(convert 9 221 (str tx)).run Tryz.prog W= .ok (.slice (some ⟨W.heap.size,0,none⟩) tx.length (cf W)) (BR W tx):=
        ⟨fun W=>Classical.choose (Dk W tx),fun W=>(Classical.choose_spec (Dk W tx)).1⟩
       clear fw;go_wp2_with fail;go_quiet (fail);obtain⟨w6,iy⟩:∃w6,w6=w5.drewN nq:=⟨_,rfl⟩;rw[<-iy];have hd:Dr w5 w6:=by rw[iy];exact(Dr.refl w5).drewN _
       rw[<-hd.cell]at k0 k1 k2 k3 k4 q0 q1 q2;have cV:=hid ((hd.ext.trans (Ext.refl w6).drew).trans (Fk w6.drew tx));have HI:=hid hI;have lC:Hid (∀j,j<tx.length->(BR w6.drew tx).cell? ⟨w6.heap.size,j,none⟩=some (.int .u8 (Ae tx j:Int))):=hid (fun j hj=>EQ w6.drew tx j hj);clear iy hd hI;go_upto_region 10 with fail;go_region;clear x9 k0 k1 k2 k3 k4 f1 f2 f3 f4 q0 q1 q2 z1 z2 z3;generalize BR w6.drew tx=wb at *;generalize w6.heap.size=gb at *;generalize cf w6.drew=cb at *;have qd:=cI.out.keep cV.out;have mR:=hid qd;have u9:=hid (ex.out.trans (KR.of_ext cV.out));obtain⟨⟨k0,k1,k2,k3,k4⟩,⟨f1,f2,f3,f4⟩,dc⟩:=qd.blk.five';clear qd;go_wp2_with fail
       go_loop [3,82] (fun s3 pQ=>∃i:Nat,i<=tx.length/\s3= .int .i64 (DP (tx.take i):Int)/\pQ= .int .i64 (i:Int)/\Hid ((tx.take i).all (fun c=>C5 c.toNat)=true)) (fun _ pQ=>tx.length-(intOf pQ).toNat)
       case atStart=>exact⟨0,Nat.zero_le _,rfl,rfl,hid rfl⟩
       case round=>
        obtain⟨i,hi,rfl,rfl,fg⟩:=hrel;by_cases hit:i<tx.length
        ·have ac:=lC.out i hit;have oy:=OC i fg.out hl2;have bZ:=hid (Kk tx i hit);have gD:=Bq tx i hit;have yV:=hid (List.take_succ_eq_append_getElem hit);have mA:=CA tx i;have dG:=(GL Ca tx i (by rw[rk.out];exact hit)).2;rw[<-gD]at dG;have iK:=IY dG;have fO:=hid gD;obtain⟨c,hc⟩:∃c,c=Ae tx i:=⟨_,rfl⟩;rw[<-hc]at ac mA iK;have rS:=hid hc;clear gD hc dG;generalize hdv:DP (tx.take i)=dv at *;have vi:=hid hdv;clear hdv;rcases iK with lG|rfl
         ·have y1:((c:Int) == 46)=false:=by rw[beq_eq_false_iff_ne];omega
          have y2:(c == 46)=false:=by rw[beq_eq_false_iff_ne];omega
          have vp:IntKind.i64.wrap (10*(dv:Int))=((10*dv:Nat):Int):=by rw[IntWalk.i64_in _ (by omega)];omega
          have hwc:IntKind.u8.wrap ((c:Int)-48)=((c-48:Nat):Int):=by
           have:IntKind.u8.wrap ((c:Int)-48)=((c:Int)-48) % 256:=rfl;rw[this];omega
          have wR:IntKind.i64.wrap (((c-48:Nat):Int))=((c-48:Nat):Int):=IntWalk.i64_in _ (by omega);obtain⟨p1,gm⟩:∃p1,p1=10*dv:=⟨_,rfl⟩;obtain⟨p2,eX⟩:∃p2,p2=c-48:=⟨_,rfl⟩;rw[<-gm]at vp;rw[<-eX]at hwc wR;have oa:IntKind.i64.wrap ((p1:Int)+(p2:Int))=((p1+p2:Nat):Int):=by rw[IntWalk.i64_in _ (by omega)];omega
          obtain⟨p3,mc⟩:∃p3,p3=p1+p2:=⟨_,rfl⟩;rw[<-mc]at oa;have HV:Hid (DP (tx.take (i+1))=p3):=hid (by rw[bZ.out,<-fO.out,<-rS.out,mc,gm,eX]);have oU:Hid ((tx.take (i+1)).all (fun c=>C5 c.toNat)=true):=hid (by
           rw[yV.out,List.all_append,fg.out,List.all_cons,List.all_nil,<-fO.out,<-rS.out];unfold C5;simp[lG.1,lG.2])
          clear gm eX mc lG;go_wp2_with fail
          go_round
          case rel=>exact⟨i+1,by omega,by rw[HV.out],by go_num,oU⟩
          case measure=>simp[intOf];omega
         ·have iu:Hid (AQ (AZ ts f) ts a=(none,c1)):=hid (aA.out (by
           rw[HI.out];unfold CO;rw[if_neg];intro hh;have h2:=List.all_eq_true.1 hh.2 tx[i] (List.getElem_mem hit);rw[<-fO.out,<-rS.out]at h2
           revert h2
           decide))
          go_wp2_with fail
          (try simp only[Exit.inBlock,Exit.then])
          first
           |refine bodyPost_ret (results_none rfl _ _ _) rfl ?_
           |refine bodyPost_end (results_none rfl _ _ _) rfl ?_
          have h3:=mR.out.fail;exact Ao.mkN iu.out (u9.out.trans h3.2) h3.1
        ·obtain rfl:i=tx.length:=by omega
         have hal:=fg.out;rw[List.take_of_length_le (Nat.le_refl _)]at hal;rw[List.take_of_length_le (Nat.le_refl _)];have iJ:Er ts c1=some (DP tx):=by
          rw[HI.out];unfold CO DP;rw[if_pos ⟨hl2,hal⟩]
         have xr:=Io iJ;obtain⟨z,hz⟩:∃z:Int,z=(DP tx:Int):=⟨_,rfl⟩;have fM:Hid (AQ (AZ ts f) ts a=(some (.un 10 z x),c1+1)):=hid (by
          rw[hz,rT.out];rw[rT.out]at iJ;exact Nn HR.out lK.out uL.out iJ)
         have yH:Hid (z=(DP tx:Int)\/z= -(DP tx:Int)):=hid (by omega);generalize DP tx=dv at *;have UT:IntKind.i64.wrap ((dv:Int))=z:=by rw[IntWalk.i64_in _ (by omega),hz]
         have a5:IntKind.i64.wrap ((c1:Int)+1)=(c1:Int)+1:=IntWalk.i64_in _ (by omega);clear hal hz iJ;go_upto_region 18 with fail;have ac:=mR.out.stepR hlt2;obtain⟨w7,dN⟩:∃w7,w7=wb.setCell ⟨g,1,none⟩ (.int .i64 ((c1:Int)+1)):=⟨_,rfl⟩;rw[<-dN]at ac ⊢;have iN:=hid (u9.out.trans ac.2);have zg:=hid ac.1;obtain⟨⟨k0,k1,k2,k3,k4⟩,⟨f1,f2,f3,f4⟩,hO⟩:=ac.1.blk.five';clear ac dN;have jC:Hid (∀q,q=(lgx || decide (64<dv))->q=(lg || (Ex.un 10 z x).big)):=hid (fun q hq=>by
          rw[hq,OD yH.out,<-zC.out];cases lg<;>cases x.big<;>simp)
         have lh:∀q:Bool,q=(lgx || decide (64<dv))->Hid (∃w8,w8=w7.setCell ⟨g,4,none⟩ (.bool q)/\RdR g w8 ts (c1+1) false (ns++Ah ns.length x) q _ bC/\KR g nv bC w w8):=fun q _=>hid (by
          have h:=zg.out.large q;exact⟨_,rfl,h.1,iN.out.trans h.2⟩)
         have jT:(ns++Ah ns.length x).length+1<=c1+1:=by omega
         cases lgx
         ·by_cases hq:64<dv
          ·have qf:decide (64<dv)=true:=decide_eq_true hq;have xj:(64:Int)<(dv:Int):=by omega
           have gk:true=(false || decide (64<dv)):=by rw[qf];rfl
           obtain⟨w8,ec,cw,dw⟩:=(lh true gk).out;have HQ:=hid (jC.out true gk);clear gk;go_upto_region 19 with fail;rw[<-ec];have bq:=hid (BX g w8 ts (c1+1) false _ true _ bC 10 0 z [] cw jT);rw[show str []= .string ⟨#[]⟩ from rfl,Ej]at bq;have kj:=hid dw;clear ec cw dw lh k0 k1 k2 k3 k4 f1 f2 f3 f4;go_wp2_with fail;refine bq.out.mono ?_
           rintro e w9 ⟨nv2,rfl,iF,fR⟩;have pY:=x.size_pos;have HF:Hid (RdR g w9 ts (c1+1) false (ns++Ah ns.length (.un 10 z x)) (lg || (Ex.un 10 z x).big) _ nv2):=hid (fR.as HQ.out (by
            rw[BP,<-List.append_assoc,Bl,show ((ns.length+x.size-1:Nat):Int)=((ns.length+x.size:Nat):Int)-1 by omega];rfl))
           have ne:=hid (kj.out.trans iF);clear iF fR;go_wp2_with fail
           (try simp only[Exit.inBlock,Exit.then])
           first
            |refine bodyPost_ret (results_none rfl _ _ _) rfl ?_
            |refine bodyPost_end (results_none rfl _ _ _) rfl ?_
           exact Ao.mkS fM.out ne.out HF.out
          ·have qf:decide (64<dv)=false:=decide_eq_false hq;have xj:¬(64:Int)<(dv:Int):=by omega
           have gk:false=(false || decide (64<dv)):=by rw[qf];rfl
           obtain⟨w8,ec,cw,dw⟩:=(lh false gk).out;have HQ:=hid (jC.out false gk);clear gk;go_upto_region 19 with fail;rw[<-ec];have bq:=hid (BX g w8 ts (c1+1) false _ false _ bC 10 0 z [] cw jT);rw[show str []= .string ⟨#[]⟩ from rfl,Ej]at bq;have kj:=hid dw;clear ec cw dw lh k0 k1 k2 k3 k4 f1 f2 f3 f4;go_wp2_with fail;refine bq.out.mono ?_
           rintro e w9 ⟨nv2,rfl,iF,fR⟩;have pY:=x.size_pos;have HF:Hid (RdR g w9 ts (c1+1) false (ns++Ah ns.length (.un 10 z x)) (lg || (Ex.un 10 z x).big) _ nv2):=hid (fR.as HQ.out (by
            rw[BP,<-List.append_assoc,Bl,show ((ns.length+x.size-1:Nat):Int)=((ns.length+x.size:Nat):Int)-1 by omega];rfl))
           have ne:=hid (kj.out.trans iF);clear iF fR;go_wp2_with fail
           (try simp only[Exit.inBlock,Exit.then])
           first
            |refine bodyPost_ret (results_none rfl _ _ _) rfl ?_
            |refine bodyPost_end (results_none rfl _ _ _) rfl ?_
           exact Ao.mkS fM.out ne.out HF.out
         ·have gk:true=(true || decide (64<dv)):=rfl;obtain⟨w8,ec,cw,dw⟩:=(lh true gk).out;have HQ:=hid (jC.out true gk);clear gk;go_upto_region 19 with fail;rw[<-ec];have bq:=hid (BX g w8 ts (c1+1) false _ true _ bC 10 0 z [] cw jT);rw[show str []= .string ⟨#[]⟩ from rfl,Ej]at bq;have kj:=hid dw;clear ec cw dw lh k0 k1 k2 k3 k4 f1 f2 f3 f4;go_wp2_with fail;refine bq.out.mono ?_
          rintro e w9 ⟨nv2,rfl,iF,fR⟩;have pY:=x.size_pos;have HF:Hid (RdR g w9 ts (c1+1) false (ns++Ah ns.length (.un 10 z x)) (lg || (Ex.un 10 z x).big) _ nv2):=hid (fR.as HQ.out (by
           rw[BP,<-List.append_assoc,Bl,show ((ns.length+x.size-1:Nat):Int)=((ns.length+x.size:Nat):Int)-1 by omega];rfl))
          have ne:=hid (kj.out.trans iF);clear iF fR;go_wp2_with fail
          (try simp only[Exit.inBlock,Exit.then])
          first
           |refine bodyPost_ret (results_none rfl _ _ _) rfl ?_
           |refine bodyPost_end (results_none rfl _ _ _) rfl ?_
          exact Ao.mkS fM.out ne.out HF.out
      ·have iu:Hid (AQ (AZ ts f) ts a=(none,c1)):=hid (aA.out (by rw[hI];unfold CO;rw[if_neg (fun h=>hl2 h.1)]));have z2:decide (2<tx.length)=true:=decide_eq_true (by omega);have z3:(2:Int)<(tx.length:Int):=by omega
       clear hI hl2;go_wp2_with fail;go_quiet (fail);go_wp2_with fail
       (try simp only[Exit.inBlock,Exit.then])
       first
        |refine bodyPost_ret (results_none rfl _ _ _) rfl ?_
        |refine bodyPost_end (results_none rfl _ _ _) rfl ?_
       have h3:=(cI.out.keep ((Ext.refl w5).drewN nq)).fail;exact Ao.mkN iu.out (ex.out.trans ((KR.of_ext ((Ext.refl w5).drewN nq)).trans h3.2)) h3.1
     ·have hk2:((tk:Int) != 1)=true:=by rw[bne_iff_ne];omega
      have iu:Hid (AQ (AZ ts f) ts a=(none,c1)):=hid (aA.out (by rw[hI,if_neg hk]));clear hI hk;go_wp2_with fail;go_quiet (fail);go_wp2_with fail
      (try simp only[Exit.inBlock,Exit.then])
      first
       |refine bodyPost_ret (results_none rfl _ _ _) rfl ?_
       |refine bodyPost_end (results_none rfl _ _ _) rfl ?_
      have h3:=(cI.out.keep ((Ext.refl w5).drewN nq)).fail;exact Ao.mkN iu.out (ex.out.trans ((KR.of_ext ((Ext.refl w5).drewN nq)).trans h3.2)) h3.1
    ·have iu:Hid (AQ (AZ ts f) ts a=(none,c1)):=hid (aA.out (by
      unfold Er;rw[List.getElem?_eq_none (by rw[<-kf.out];exact ew)]))
     have z1:decide (n<=c1)=true:=decide_eq_true ew;have z2:(n:Int)<=(c1:Int):=by omega
     clear cD;go_wp2_with fail;go_quiet (fail);go_wp2_with fail
     (try simp only[Exit.inBlock,Exit.then])
     first
      |refine bodyPost_ret (results_none rfl _ _ _) rfl ?_
      |refine bodyPost_end (results_none rfl _ _ _) rfl ?_
     have h3:=(cI.out.keep ((Ext.refl w5).drewN nq)).fail;exact Ao.mkN iu.out (ex.out.trans ((KR.of_ext ((Ext.refl w5).drewN nq)).trans h3.2)) h3.1
   ·have qA:=Cb dm;have uL:=hid dm;have sU:IntKind.i64.wrap (((b+1:Nat):Int)+1)=((b+1:Nat):Int)+1:=IntWalk.i64_in _ (by omega);clear dm;go_wp2_with fail;refine kM.out.mono ?_
    rintro e w4 ⟨rfl,hd⟩;have dP:=ej.out.keep hd.ext;have dg:=hid dP;have iv:=hid (ea.out.trans (KR.of_ext hd.ext));obtain⟨⟨k0,k1,k2,k3,k4⟩,⟨f1,f2,f3,f4⟩,qG⟩:=dP.blk.five';clear hd dP sV;obtain⟨b1,aq⟩:∃b1,b1=b+1:=⟨_,rfl⟩;rw[<-aq]at k1 sU qA;have ag:=hid aq;clear aq;go_upto_region 7 with fail;have ac:=dg.out.stepR (by rw[<-ag.out];exact qA);rw[<-ag.out]at ac;obtain⟨w5,eh⟩:∃w5,w5=w4.setCell ⟨g,1,none⟩ (.int .i64 ((b1:Int)+1)):=⟨_,rfl⟩;rw[<-eh]at ac ⊢;rw[ag.out]at ac;have cI:=hid ac.1;have ex:=hid (iv.out.trans ac.2);clear ac eh qA sU k0 k1 k2 k3 k4 f1 f2 f3 f4;obtain⟨c1,hc1⟩:∃c1,c1=b+1+1:=⟨_,rfl⟩;rw[<-hc1]at cI;have rT:=hid hc1;have aA:Hid (Er ts c1=none->AQ (AZ ts f) ts a=(none,c1)):=hid (fun h=>by rw[hc1]at h ⊢;exact JD HR.out lK.out uL.out h);obtain⟨A,c0,rfl,aa⟩:=cI.out.tok;have qw:=cI.out.le;have mt:=cI.out.few;obtain⟨⟨k0,k1,k2,k3,k4⟩,⟨f1,f2,f3,f4⟩,ox⟩:=cI.out.blk.five';obtain⟨n,gn⟩:∃n,n=ts.length:=⟨_,rfl⟩;rw[<-gn]at k0 qw eI;have kf:=hid gn;have cD:=aa;clear gn hc1 aa;generalize hlx:(lg || x.big)=lgx at *;have zC:=hid hlx;clear hlx;rcases Nat.lt_or_ge c1 n with hlt|ew
    ·have hlt2:c1<ts.length:=by rw[<-kf.out];exact hlt
     obtain⟨bt,yd,hbg,kE,hc⟩:=cD (by omega);subst yd;obtain⟨q0,q1,q2⟩:=hc c1 hlt2;have hI:Er ts c1=if ts[c1].kind=1 then CO ts[c1].text else none:=by
      unfold Er;rw[List.getElem?_eq_getElem hlt2]
     have dX:ts[c1].kind=1->An Ca ts[c1].text=ts[c1].text.length:=fun h1=>by
      rcases eO.out ts[c1] (List.getElem_mem hlt2) with ⟨_,_,h,_⟩|⟨h,_⟩|⟨h,_⟩
      ·exact h
      ·omega
      ·omega
     have fN:=hid dX;clear hc dX cD;generalize ts[c1].kind=tk at *;generalize ts[c1].text=tx at *;have z1:decide (n<=c1)=false:=decide_eq_false (by omega);by_cases hk:tk=1
     ·subst hk;rw[if_pos rfl]at hI;by_cases hl2:tx.length<=2
      ·have z2:decide (2<tx.length)=false:=decide_eq_false (by omega);have z3:¬(2:Int)<(tx.length:Int):=by omega
       have fw:=fN.out rfl;have rk:=hid fw;obtain⟨cf,x9⟩:∃cf:World->Nat,∀W:World,(convert 9 221 (str tx)).run Tryz.prog W= .ok (.slice (some ⟨W.heap.size,0,none⟩) tx.length (cf W)) (BR W tx):=
        ⟨fun W=>Classical.choose (Dk W tx),fun W=>(Classical.choose_spec (Dk W tx)).1⟩
       clear fw;go_wp2_with fail;go_quiet (fail);obtain⟨w6,iy⟩:∃w6,w6=w5.drewN nq:=⟨_,rfl⟩;rw[<-iy];have hd:Dr w5 w6:=by rw[iy];exact(Dr.refl w5).drewN _
       rw[<-hd.cell]at k0 k1 k2 k3 k4 q0 q1 q2;have cV:=hid ((hd.ext.trans (Ext.refl w6).drew).trans (Fk w6.drew tx));have HI:=hid hI;have lC:Hid (∀j,j<tx.length->(BR w6.drew tx).cell? ⟨w6.heap.size,j,none⟩=some (.int .u8 (Ae tx j:Int))):=hid (fun j hj=>EQ w6.drew tx j hj);clear iy hd hI;go_upto_region 10 with fail;go_region;clear x9 k0 k1 k2 k3 k4 f1 f2 f3 f4 q0 q1 q2 z1 z2 z3;generalize BR w6.drew tx=wb at *;generalize w6.heap.size=gb at *;generalize cf w6.drew=cb at *;have qd:=cI.out.keep cV.out;have mR:=hid qd;have u9:=hid (ex.out.trans (KR.of_ext cV.out));obtain⟨⟨k0,k1,k2,k3,k4⟩,⟨f1,f2,f3,f4⟩,dc⟩:=qd.blk.five';clear qd;go_wp2_with fail
       go_loop [3,82] (fun s3 pQ=>∃i:Nat,i<=tx.length/\s3= .int .i64 (DP (tx.take i):Int)/\pQ= .int .i64 (i:Int)/\Hid ((tx.take i).all (fun c=>C5 c.toNat)=true)) (fun _ pQ=>tx.length-(intOf pQ).toNat)
       case atStart=>exact⟨0,Nat.zero_le _,rfl,rfl,hid rfl⟩
       case round=>
        obtain⟨i,hi,rfl,rfl,fg⟩:=hrel;by_cases hit:i<tx.length
        ·have ac:=lC.out i hit;have oy:=OC i fg.out hl2;have bZ:=hid (Kk tx i hit);have gD:=Bq tx i hit;have yV:=hid (List.take_succ_eq_append_getElem hit);have mA:=CA tx i;have dG:=(GL Ca tx i (by rw[rk.out];exact hit)).2;rw[<-gD]at dG;have iK:=IY dG;have fO:=hid gD;obtain⟨c,hc⟩:∃c,c=Ae tx i:=⟨_,rfl⟩;rw[<-hc]at ac mA iK;have rS:=hid hc;clear gD hc dG;generalize hdv:DP (tx.take i)=dv at *;have vi:=hid hdv;clear hdv;rcases iK with lG|rfl
         ·have y1:((c:Int) == 46)=false:=by rw[beq_eq_false_iff_ne];omega
          have y2:(c == 46)=false:=by rw[beq_eq_false_iff_ne];omega
          have vp:IntKind.i64.wrap (10*(dv:Int))=((10*dv:Nat):Int):=by rw[IntWalk.i64_in _ (by omega)];omega
          have hwc:IntKind.u8.wrap ((c:Int)-48)=((c-48:Nat):Int):=by
           have:IntKind.u8.wrap ((c:Int)-48)=((c:Int)-48) % 256:=rfl;rw[this];omega
          have wR:IntKind.i64.wrap (((c-48:Nat):Int))=((c-48:Nat):Int):=IntWalk.i64_in _ (by omega);obtain⟨p1,gm⟩:∃p1,p1=10*dv:=⟨_,rfl⟩;obtain⟨p2,eX⟩:∃p2,p2=c-48:=⟨_,rfl⟩;rw[<-gm]at vp;rw[<-eX]at hwc wR;have oa:IntKind.i64.wrap ((p1:Int)+(p2:Int))=((p1+p2:Nat):Int):=by rw[IntWalk.i64_in _ (by omega)];omega
          obtain⟨p3,mc⟩:∃p3,p3=p1+p2:=⟨_,rfl⟩;rw[<-mc]at oa;have HV:Hid (DP (tx.take (i+1))=p3):=hid (by rw[bZ.out,<-fO.out,<-rS.out,mc,gm,eX]);have oU:Hid ((tx.take (i+1)).all (fun c=>C5 c.toNat)=true):=hid (by
           rw[yV.out,List.all_append,fg.out,List.all_cons,List.all_nil,<-fO.out,<-rS.out];unfold C5;simp[lG.1,lG.2])
          clear gm eX mc lG;go_wp2_with fail
          go_round
          case rel=>exact⟨i+1,by omega,by rw[HV.out],by go_num,oU⟩
          case measure=>simp[intOf];omega
         ·have iu:Hid (AQ (AZ ts f) ts a=(none,c1)):=hid (aA.out (by
           rw[HI.out];unfold CO;rw[if_neg];intro hh;have h2:=List.all_eq_true.1 hh.2 tx[i] (List.getElem_mem hit);rw[<-fO.out,<-rS.out]at h2
           revert h2
           decide))
          go_wp2_with fail
          (try simp only[Exit.inBlock,Exit.then])
          first
           |refine bodyPost_ret (results_none rfl _ _ _) rfl ?_
           |refine bodyPost_end (results_none rfl _ _ _) rfl ?_
          have h3:=mR.out.fail;exact Ao.mkN iu.out (u9.out.trans h3.2) h3.1
        ·obtain rfl:i=tx.length:=by omega
         have hal:=fg.out;rw[List.take_of_length_le (Nat.le_refl _)]at hal;rw[List.take_of_length_le (Nat.le_refl _)];have iJ:Er ts c1=some (DP tx):=by
          rw[HI.out];unfold CO DP;rw[if_pos ⟨hl2,hal⟩]
         have xr:=Io iJ;obtain⟨z,hz⟩:∃z:Int,z= -(DP tx:Int):=⟨_,rfl⟩;have fM:Hid (AQ (AZ ts f) ts a=(some (.un 10 z x),c1+1)):=hid (by
          rw[hz,rT.out];rw[rT.out]at iJ;exact No HR.out lK.out uL.out iJ)
         have yH:Hid (z=(DP tx:Int)\/z= -(DP tx:Int)):=hid (by omega);generalize DP tx=dv at *;have UT:IntKind.i64.wrap (-(dv:Int))=z:=by rw[IntWalk.i64_in _ (by omega),hz]
         have a5:IntKind.i64.wrap ((c1:Int)+1)=(c1:Int)+1:=IntWalk.i64_in _ (by omega);clear hal hz iJ;go_upto_region 18 with fail;have ac:=mR.out.stepR hlt2;obtain⟨w7,dN⟩:∃w7,w7=wb.setCell ⟨g,1,none⟩ (.int .i64 ((c1:Int)+1)):=⟨_,rfl⟩;rw[<-dN]at ac ⊢;have iN:=hid (u9.out.trans ac.2);have zg:=hid ac.1;obtain⟨⟨k0,k1,k2,k3,k4⟩,⟨f1,f2,f3,f4⟩,hO⟩:=ac.1.blk.five';clear ac dN;have jC:Hid (∀q,q=(lgx || decide (64<dv))->q=(lg || (Ex.un 10 z x).big)):=hid (fun q hq=>by
          rw[hq,OD yH.out,<-zC.out];cases lg<;>cases x.big<;>simp)
         have lh:∀q:Bool,q=(lgx || decide (64<dv))->Hid (∃w8,w8=w7.setCell ⟨g,4,none⟩ (.bool q)/\RdR g w8 ts (c1+1) false (ns++Ah ns.length x) q _ bC/\KR g nv bC w w8):=fun q _=>hid (by
          have h:=zg.out.large q;exact⟨_,rfl,h.1,iN.out.trans h.2⟩)
         have jT:(ns++Ah ns.length x).length+1<=c1+1:=by omega
         cases lgx
         ·by_cases hq:64<dv
          ·have qf:decide (64<dv)=true:=decide_eq_true hq;have xj:(64:Int)<(dv:Int):=by omega
           have gk:true=(false || decide (64<dv)):=by rw[qf];rfl
           obtain⟨w8,ec,cw,dw⟩:=(lh true gk).out;have HQ:=hid (jC.out true gk);clear gk;go_upto_region 19 with fail;rw[<-ec];have bq:=hid (BX g w8 ts (c1+1) false _ true _ bC 10 0 z [] cw jT);rw[show str []= .string ⟨#[]⟩ from rfl,Ej]at bq;have kj:=hid dw;clear ec cw dw lh k0 k1 k2 k3 k4 f1 f2 f3 f4;go_wp2_with fail;refine bq.out.mono ?_
           rintro e w9 ⟨nv2,rfl,iF,fR⟩;have pY:=x.size_pos;have HF:Hid (RdR g w9 ts (c1+1) false (ns++Ah ns.length (.un 10 z x)) (lg || (Ex.un 10 z x).big) _ nv2):=hid (fR.as HQ.out (by
            rw[BP,<-List.append_assoc,Bl,show ((ns.length+x.size-1:Nat):Int)=((ns.length+x.size:Nat):Int)-1 by omega];rfl))
           have ne:=hid (kj.out.trans iF);clear iF fR;go_wp2_with fail
           (try simp only[Exit.inBlock,Exit.then])
           first
            |refine bodyPost_ret (results_none rfl _ _ _) rfl ?_
            |refine bodyPost_end (results_none rfl _ _ _) rfl ?_
           exact Ao.mkS fM.out ne.out HF.out
          ·have qf:decide (64<dv)=false:=decide_eq_false hq;have xj:¬(64:Int)<(dv:Int):=by omega
           have gk:false=(false || decide (64<dv)):=by rw[qf];rfl
           obtain⟨w8,ec,cw,dw⟩:=(lh false gk).out;have HQ:=hid (jC.out false gk);clear gk;go_upto_region 19 with fail;rw[<-ec];have bq:=hid (BX g w8 ts (c1+1) false _ false _ bC 10 0 z [] cw jT);rw[show str []= .string ⟨#[]⟩ from rfl,Ej]at bq;have kj:=hid dw;clear ec cw dw lh k0 k1 k2 k3 k4 f1 f2 f3 f4;go_wp2_with fail;refine bq.out.mono ?_
           rintro e w9 ⟨nv2,rfl,iF,fR⟩;have pY:=x.size_pos;have HF:Hid (RdR g w9 ts (c1+1) false (ns++Ah ns.length (.un 10 z x)) (lg || (Ex.un 10 z x).big) _ nv2):=hid (fR.as HQ.out (by
            rw[BP,<-List.append_assoc,Bl,show ((ns.length+x.size-1:Nat):Int)=((ns.length+x.size:Nat):Int)-1 by omega];rfl))
           have ne:=hid (kj.out.trans iF);clear iF fR;go_wp2_with fail
           (try simp only[Exit.inBlock,Exit.then])
           first
            |refine bodyPost_ret (results_none rfl _ _ _) rfl ?_
            |refine bodyPost_end (results_none rfl _ _ _) rfl ?_
           exact Ao.mkS fM.out ne.out HF.out
         ·have gk:true=(true || decide (64<dv)):=rfl;obtain⟨w8,ec,cw,dw⟩:=(lh true gk).out;have HQ:=hid (jC.out true gk);clear gk;go_upto_region 19 with fail;rw[<-ec];have bq:=hid (BX g w8 ts (c1+1) false _ true _ bC 10 0 z [] cw jT);rw[show str []= .string ⟨#[]⟩ from rfl,Ej]at bq;have kj:=hid dw;clear ec cw dw lh k0 k1 k2 k3 k4 f1 f2 f3 f4;go_wp2_with fail;refine bq.out.mono ?_
          rintro e w9 ⟨nv2,rfl,iF,fR⟩;have pY:=x.size_pos;have HF:Hid (RdR g w9 ts (c1+1) false (ns++Ah ns.length (.un 10 z x)) (lg || (Ex.un 10 z x).big) _ nv2):=hid (fR.as HQ.out (by
           rw[BP,<-List.append_assoc,Bl,show ((ns.length+x.size-1:Nat):Int)=((ns.length+x.size:Nat):Int)-1 by omega];rfl))
          have ne:=hid (kj.out.trans iF);clear iF fR;go_wp2_with fail
          (try simp only[Exit.inBlock,Exit.then])
          first
           |refine bodyPost_ret (results_none rfl _ _ _) rfl ?_
           |refine bodyPost_end (results_none rfl _ _ _) rfl ?_
          exact Ao.mkS fM.out ne.out HF.out
      ·have iu:Hid (AQ (AZ ts f) ts a=(none,c1)):=hid (aA.out (by rw[hI];unfold CO;rw[if_neg (fun h=>hl2 h.1)]));have z2:decide (2<tx.length)=true:=decide_eq_true (by omega);have z3:(2:Int)<(tx.length:Int):=by omega
       clear hI hl2;go_wp2_with fail;go_quiet (fail);go_wp2_with fail
       (try simp only[Exit.inBlock,Exit.then])
       first
        |refine bodyPost_ret (results_none rfl _ _ _) rfl ?_
        |refine bodyPost_end (results_none rfl _ _ _) rfl ?_
       have h3:=(cI.out.keep ((Ext.refl w5).drewN nq)).fail;exact Ao.mkN iu.out (ex.out.trans ((KR.of_ext ((Ext.refl w5).drewN nq)).trans h3.2)) h3.1
     ·have hk2:((tk:Int) != 1)=true:=by rw[bne_iff_ne];omega
      have iu:Hid (AQ (AZ ts f) ts a=(none,c1)):=hid (aA.out (by rw[hI,if_neg hk]));clear hI hk;go_wp2_with fail;go_quiet (fail);go_wp2_with fail
      (try simp only[Exit.inBlock,Exit.then])
      first
       |refine bodyPost_ret (results_none rfl _ _ _) rfl ?_
       |refine bodyPost_end (results_none rfl _ _ _) rfl ?_
      have h3:=(cI.out.keep ((Ext.refl w5).drewN nq)).fail;exact Ao.mkN iu.out (ex.out.trans ((KR.of_ext ((Ext.refl w5).drewN nq)).trans h3.2)) h3.1
    ·have iu:Hid (AQ (AZ ts f) ts a=(none,c1)):=hid (aA.out (by
      unfold Er;rw[List.getElem?_eq_none (by rw[<-kf.out];exact ew)]))
     have z1:decide (n<=c1)=true:=decide_eq_true ew;have z2:(n:Int)<=(c1:Int):=by omega
     clear cD;go_wp2_with fail;go_quiet (fail);go_wp2_with fail
     (try simp only[Exit.inBlock,Exit.then])
     first
      |refine bodyPost_ret (results_none rfl _ _ _) rfl ?_
      |refine bodyPost_end (results_none rfl _ _ _) rfl ?_
     have h3:=(cI.out.keep ((Ext.refl w5).drewN nq)).fail;exact Ao.mkN iu.out (ex.out.trans ((KR.of_ext ((Ext.refl w5).drewN nq)).trans h3.2)) h3.1
section
variable {p:Nat->Option Ex × Nat} {ts:List Tok} {a b:Nat} {x:Ex}
theorem IV(h:isS ts a [45]=false):By p ts a=AQ p ts a:=by
 unfold By;rw[Ux h,Nat.add_zero];rcases AQ p ts a with ⟨_|x,b⟩<;>rfl
theorem LS(h:isS ts a [45]=true)(hr:By p ts (a+1)=(none,b)):By p ts a=(none,b):=by
 unfold By at hr ⊢;rw[Tu h,show a+(AV ts ts.length (a+1)+1)=a+1+AV ts ts.length (a+1) by omega];rcases h2:AQ p ts (a+1+AV ts ts.length (a+1)) with ⟨_|x,b⟩
 ·rw[h2]at hr;exact hr
 ·rw[h2]at hr;simp at hr
theorem LR(h:isS ts a [45]=true)(hr:By p ts (a+1)=(some x,b)):By p ts a=(some (.un 5 0 x),b):=by
 unfold By at hr ⊢;rw[Tu h,show a+(AV ts ts.length (a+1)+1)=a+1+AV ts ts.length (a+1) by omega];rcases h2:AQ p ts (a+1+AV ts ts.length (a+1)) with ⟨_|y,b'⟩
 ·rw[h2]at hr;simp at hr
 ·rw[h2]at hr;simp only[Prod.mk.injEq,Option.some.injEq]at hr ⊢;obtain⟨rfl,rfl⟩:=hr;exact⟨PE _ _,rfl⟩
end
theorem Rg{len:Nat}:D9 5 0 0 len []=⟨5,(len:Int)-1,0,0,[]⟩:=by
 unfold D9;rw[if_pos (by decide)]
theorem Gx{k first:Int}(hk:Aq k=2){len:Nat}:D9 k first 0 len []=⟨k,first,(len:Int)-1,0,[]⟩:=by
 unfold D9;rw[if_neg (by rw[hk];decide),if_pos hk]
theorem Nb(g:Nat)(ts:List Tok)(tv:Value)(f:Nat)(iI:∀t∈ts,BS t)(d:Nat):∀a,ts.length<=a+d->(∀a',a<a'->Sg g ts tv f a')->∀(w:World) (ns:List Nd) (lg:Bool) (nv:Value),RdR g w ts a false ns lg tv nv->
  Calls Tryz.prog 172 #[.pointer (some ⟨g,0,none⟩)] w (Ao g ts tv ns nv lg (By (AZ ts f) ts a) w):=by
 induction d with
 |zero=>
  intro a vJ hs w ns lg nv h;have hz:isS ts a [45]=false:=by
   unfold isS;rw[List.getElem?_eq_none (by omega)]
  have HM:=hid (IV (p:=AZ ts f) hz);have kM:=hid (CF g w ts a false ns lg tv nv [45] h);rw[show str [45]= .string ⟨#[45]⟩ from rfl,hz]at kM;simp only[Bool.and_false]at kM;have zm:=hid (fun W h=>II g ts tv f a iI hs W ns lg nv h);have HR:=hid h;clear h hs hz vJ iI;go_enter Tryz.func172,Tryz.ntmps172;go_wp2_with fail;refine kM.out.mono ?_
  rintro e w2 ⟨rfl,hd⟩;have HE:=hid (And.intro (HR.out.keep hd.ext) (KR.of_ext (g:=g) (nv:=nv) hd.ext));clear hd;go_wp2_with fail;refine(zm.out w2 HE.out.1).mono ?_
  rintro e w3 al;obtain⟨rfl,rW,dx,hm⟩:=al;have zo:Hid (Ao g ts tv ns nv lg (By (AZ ts f) ts a) w (.returned (.tuple #[])) w3):=hid (by
   rw[HM.out];exact⟨rfl,rW,HE.out.2.trans dx,hm⟩)
  clear dx hm;go_wp2_with fail
  (try simp only[Exit.inBlock,Exit.then])
  first
   |refine bodyPost_ret (results_none rfl _ _ _) rfl ?_
   |refine bodyPost_end (results_none rfl _ _ _) rfl ?_
  exact zo.out
 |succ d ih=>
  intro a vJ hs w ns lg nv h;have kM:=hid (CF g w ts a false ns lg tv nv [45] h);rw[show str [45]= .string ⟨#[45]⟩ from rfl]at kM;simp only[Bool.not_false,Bool.true_and]at kM;have HR:=hid h;have eO:=hid iI;obtain⟨u,hz⟩:∃u,isS ts a [45]=u:=⟨_,rfl⟩;rw[hz]at kM;cases u
  ·have HM:=hid (IV (p:=AZ ts f) hz);have zm:=hid (fun W h=>II g ts tv f a iI hs W ns lg nv h);clear h hs hz vJ iI ih;go_enter Tryz.func172,Tryz.ntmps172;go_wp2_with fail;refine kM.out.mono ?_
   rintro e w2 ⟨rfl,hd⟩;have HE:=hid (And.intro (HR.out.keep hd.ext) (KR.of_ext (g:=g) (nv:=nv) hd.ext));clear hd;go_wp2_with fail;refine(zm.out w2 HE.out.1).mono ?_
   rintro e w3 al;obtain⟨rfl,rW,dx,hm⟩:=al;have zo:Hid (Ao g ts tv ns nv lg (By (AZ ts f) ts a) w (.returned (.tuple #[])) w3):=hid (by
    rw[HM.out];exact⟨rfl,rW,HE.out.2.trans dx,hm⟩)
   clear dx hm;go_wp2_with fail
   (try simp only[Exit.inBlock,Exit.then])
   first
    |refine bodyPost_ret (results_none rfl _ _ _) rfl ?_
    |refine bodyPost_end (results_none rfl _ _ _) rfl ?_
   exact zo.out
  ·have hlt:=Cb hz;have eI:=h.max;have pJ:=hid (ih (a+1) (by omega) (fun a' h'=>hs a' (by omega)));have fm:=E9 (DE ts f) (a+1) hlt;have HZ:=hid hz;have vp:IntKind.i64.wrap ((a:Int)+1)=(a:Int)+1:=IntWalk.i64_in _ (by omega);clear h hs hz vJ iI ih;go_enter Tryz.func172,Tryz.ntmps172;go_wp2_with fail;refine kM.out.mono ?_
   rintro e w2 ⟨rfl,hd⟩;have hr2:=HR.out.keep hd.ext;have fH:=hid hr2;have ey:=hid (KR.of_ext (g:=g) (nv:=nv) hd.ext);obtain⟨⟨k0,k1,k2,k3,k4⟩,⟨f1,f2,f3,f4⟩,nG⟩:=hr2.blk.five';clear hd hr2;go_upto_region 2 with fail;have ac:=fH.out.stepR hlt;obtain⟨w3,eP⟩:∃w3,w3=w2.setCell ⟨g,1,none⟩ (.int .i64 ((a:Int)+1)):=⟨_,rfl⟩;rw[<-eP]at ac ⊢;have ea:=hid (ey.out.trans ac.2);have nT:=hid (pJ.out w3 ns lg nv ac.1);clear ac eP k0 k1 k2 k3 k4 f1 f2 f3 f4;go_wp2_with fail;refine nT.out.mono ?_
   intro e w4 al;obtain⟨r,hr⟩:∃r,By (AZ ts f) ts (a+1)=r:=⟨_,rfl⟩;rw[hr]at fm;obtain⟨_|x,b⟩:=r
   ·obtain⟨rfl,oV,ZO,ZR,bc,hk⟩:=al.none_ hr;have HD:=hid (LS HZ.out hr);have HE:=hid (And.intro (ea.out.trans hk) bc);obtain⟨⟨k0,k1,k2,k3,k4⟩,⟨f1,f2,f3,f4⟩,qG⟩:=bc.blk.five';clear al hr bc hk fm;go_wp2_with fail
    (try simp only[Exit.inBlock,Exit.then])
    first
     |refine bodyPost_ret (results_none rfl _ _ _) rfl ?_
     |refine bodyPost_end (results_none rfl _ _ _) rfl ?_
    exact Ao.mkN HD.out HE.out.1 HE.out.2
   ·obtain⟨rfl,oV,bc,hk⟩:=al.some_ hr;have tW:=fm.2.2 x rfl;have em:=fm.2.1;simp only at tW em;have HD:=hid (LR HZ.out hr);have iv:=hid (ea.out.trans hk);have t5:(ns++Ah ns.length x).length+1<=b:=by have:=HR.out.few;rw[Bl];omega
    have bq:=hid (BX g w4 ts b false _ _ tv oV 5 0 0 [] bc t5);rw[show str []= .string ⟨#[]⟩ from rfl,Rg]at bq;obtain⟨⟨k0,k1,k2,k3,k4⟩,⟨f1,f2,f3,f4⟩,qG⟩:=bc.blk.five';clear al hr bc hk fm t5;go_wp2_with fail;refine bq.out.mono ?_
    rintro e w5 ⟨WK,rfl,i5,cG⟩;have pY:=x.size_pos;have hbg:(lg || x.big)=(lg || (Ex.un 5 0 x).big):=by rw[Ex.big];rfl
    have HF:Hid (RdR g w5 ts b false (ns++Ah ns.length (.un 5 0 x)) (lg || (Ex.un 5 0 x).big) tv WK):=hid (cG.as hbg (by
     rw[BP,<-List.append_assoc,Bl,show ((ns.length+x.size-1:Nat):Int)=((ns.length+x.size:Nat):Int)-1 by omega];rfl))
    have ex:=hid (iv.out.trans i5);clear i5 cG hbg;go_wp2_with fail
    (try simp only[Exit.inBlock,Exit.then])
    first
     |refine bodyPost_ret (results_none rfl _ _ _) rfl ?_
     |refine bodyPost_end (results_none rfl _ _ _) rfl ?_
    exact Ao.mkS HD.out ex.out HF.out
structure Lh (g:Nat) (ts:List Tok) (tv:Value) (ns:List Nd) (nv:Value) (lg:Bool) (w:World) (C:Option Ex × Nat) (op:Nat->Option Ex × Nat) (s1 s2:List UInt8) (k1 k2 a f b:Nat) (x:Ex) (nv':Value) (wr:World):Prop where
 rd:RdR g wr ts b false (ns++Ah ns.length x) (lg || x.big) tv nv'
 kr:KR g nv nv' w wr
 eq:C=Bt op ts s1 s2 k1 k2 f x b
 fuel:ts.length<=b+f
 lo:a<=b
 sz:ns.length+x.size<=b
theorem Lh.next {g:Nat} {ts:List Tok} {tv nv bC nv2 rW oV:Value} {ns:List Nd} {lg:Bool} {w wr w1 w2 w3:World} {C:Option Ex × Nat} {op:Nat->Option Ex × Nat} {s1 s2:List UInt8} {k1 k2 a f b b' k n1 n2:Nat} {x y:Ex}
  (h:Lh g ts tv ns nv lg w C op s1 s2 k1 k2 a f b x bC wr) (hc:C=Bt op ts s1 s2 k1 k2 (f-1) (.bin k x y) b') (hb:b+1+y.size<=b') (hr:RdR g w3 ts b' false (((ns++Ah ns.length x)++Ah (ns++Ah ns.length x).length y)++[⟨(k:Int),(n1:Int)-1,(n2:Int)-1,0,[]⟩]) ((lg || x.big) || y.big) tv oV)
  (dH:n1=(ns++Ah ns.length x).length) (hn2:n2=((ns++Ah ns.length x)++Ah (ns++Ah ns.length x).length y).length)
  (eQ:KR g bC nv2 wr w1) (hk2:KR g nv2 rW w1 w2) (dx:KR g rW oV w2 w3):Lh g ts tv ns nv lg w C op s1 s2 k1 k2 a (f-1) b' (.bin k x y) oV w3:=by
 subst dH;subst hn2;have hx:=x.size_pos;have hy:=y.size_pos;have h1:=h.fuel;have h2:=h.lo;have h3:=h.sz;refine⟨?_,((h.kr.trans eQ).trans hk2).trans dx,hc,by omega,by omega,by rw[Ex.size];omega⟩;refine hr.as (by rw[Ex.big,Bool.or_assoc]) ?_
 rw[RF];have e1:(ns++Ah ns.length x).length=ns.length+x.size:=Bl;rw[e1];have e2:((ns++Ah ns.length x)++Ah (ns.length+x.size) y).length=ns.length+x.size+y.size:=by rw[List.length_append,e1,AE]
 rw[e2];rw[show ((ns.length+x.size-1:Nat):Int)=((ns.length+x.size:Nat):Int)-1 by omega,show ((ns.length+x.size+y.size-1:Nat):Int)=((ns.length+x.size+y.size:Nat):Int)-1 by omega];simp only[List.append_assoc]
def LoR(g:Nat)(ts:List Tok)(tv:Value)(ns:List Nd)(nv:Value)(lg:Bool)(w:World)(C:Option Ex × Nat)(op:Nat->Option Ex × Nat)(s1 s2:List UInt8)(k1 k2 a:Nat)(b:Nat)(wr:World):Prop:=
 (C=(none,b)/\∃nv' ns' lg',RdR g wr ts b true ns' lg' tv nv'/\KR g nv nv' w wr)\/∃f x nv',Lh g ts tv ns nv lg w C op s1 s2 k1 k2 a f b x nv' wr
theorem Ou{ts:List Tok}{b:Nat}{c d:List UInt8}(h:isS ts b c=true)(vG:(c == d)=false):isS ts b d=false:=by
 unfold isS at h ⊢;cases h2:ts[b]? with
 |none=>rfl
 |some t=>
  rw[h2]at h;simp only[Bool.and_eq_true,beq_iff_eq]at h;simp only[h.2,vG,Bool.and_false]
theorem Ky(g:Nat)(ts:List Tok)(tv:Value)(f a:Nat)(iI:∀t∈ts,BS t)(hs:∀a',a<a'->Sg g ts tv f a')(w:World)(ns:List Nd)(lg:Bool)(nv:Value)(h:RdR g w ts a false ns lg tv nv):
  Calls Tryz.prog 128 #[.pointer (some ⟨g,0,none⟩)] w (Ao g ts tv ns nv lg (FI (AZ ts f) ts a) w):=by
 have aO:Hid (∀a',a<=a'->∀w ns lg nv,RdR g w ts a' false ns lg tv nv->Calls Tryz.prog 172 #[.pointer (some ⟨g,0,none⟩)] w (Ao g ts tv ns nv lg (By (AZ ts f) ts a') w)):=
  hid (fun a' ha w ns lg nv h=>Nb g ts tv f iI ts.length a' (by omega) (fun b hb=>hs b (by omega)) w ns lg nv h)
 have HG:=hid (E9 (DE ts f));obtain⟨C,hC⟩:∃C,CS (By (AZ ts f) ts) ts [42] [47] 8 9 a=C:=⟨_,rfl⟩;rw[show FI (AZ ts f) ts a=CS (By (AZ ts f) ts) ts [42] [47] 8 9 a from rfl,hC];generalize By (AZ ts f) ts=op at *;clear hs iI;have gI:=hid (fun W a bad ns lg nv h=>CF g W ts a bad ns lg tv nv [42] h);have fL:=hid (fun W a bad ns lg nv h=>CF g W ts a bad ns lg tv nv [47] h);rw[show str [42]= .string ⟨#[42]⟩ from rfl]at gI;rw[show str [47]= .string ⟨#[47]⟩ from rfl]at fL;have cx:=h.le;have eI:=h.max;have ei:=h.few;have HC:Hid (∀r,op a=r->C=match r with|(none,b)=>(none,b)|(some x,b)=>Bt op ts [42] [47] 8 9 ts.length x b):=hid (fun r hr=>by rw[<-hC];unfold CS;rw[hr]<;>(obtain⟨_|x,b⟩:=r<;>rfl));have fm:=HG.out a cx;have HO:=hid (aO.out a (Nat.le_refl _) w ns lg nv h);clear h hC;go_enter Tryz.func128,Tryz.ntmps128;go_wp2_with fail;refine HO.out.mono ?_
 intro e w3 al;have ac:e= .returned (.tuple #[])/\∃b,LoR g ts tv ns nv lg w C op [42] [47] 8 9 a b w3:=by
  obtain⟨r,hr⟩:∃r,op a=r:=⟨_,rfl⟩;have hC:=HC.out r hr;rw[hr]at fm;obtain⟨_|x,b⟩:=r
  ·obtain⟨rfl,bC,jp,jr,bc,hk⟩:=al.none_ hr;exact⟨rfl,b,.inl ⟨hC,bC,jp,jr,bc,hk⟩⟩
  ·obtain⟨rfl,bC,bc,hk⟩:=al.some_ hr;have tY:=fm.2.2 x rfl;have em:=fm.1;simp only at tY em;exact⟨rfl,b,.inr ⟨ts.length,x,bC,bc,hk,hC,by omega,em,by omega⟩⟩
 obtain⟨rfl,b0,iE⟩:=ac;have fu:=hid iE;clear al iE fm HO HC;go_wp2_with fail
 go_loopg [] (ts.length-b0) (fun gh wr=>∃b,gh=ts.length-b/\LoR g ts tv ns nv lg w C op [42] [47] 8 9 a b wr)
 case atStart=>exact⟨b0,rfl,fu.out⟩
 case round=>
  obtain⟨b,hgg,⟨oz,bC,jp,jr,bc,tR⟩|⟨mJ,x,bC,aX⟩⟩:=hrel
  ·have HE:=hid (And.intro tR bc);have zR:=hid oz;have ag:=hid (gI.out wr b true jp jr bC bc);simp only[Bool.not_true,Bool.false_and]at ag;clear hgg oz bc tR fu;go_wp2_with fail;refine ag.out.mono ?_
   rintro e w4 ⟨rfl,hd⟩;have eV:=hid (And.intro (HE.out.1.trans (KR.of_ext hd.ext)) (HE.out.2.keep hd.ext));have aY:=hid (fL.out w4 b true jp jr bC eV.out.2);simp only[Bool.not_true,Bool.false_and]at aY;clear hd;go_wp2_with fail;refine aY.out.mono ?_
   rintro e w5 ⟨rfl,hd⟩;have iO:=hid (And.intro (eV.out.1.trans (KR.of_ext hd.ext)) (eV.out.2.keep hd.ext));clear hd;go_wp2_with fail
   (try simp only[Exit.inBlock,Exit.then])
   first
    |refine bodyPost_ret (results_none rfl _ _ _) rfl ?_
    |refine bodyPost_end (results_none rfl _ _ _) rfl ?_
   exact Ao.mkN zR.out iO.out.1 iO.out.2
  ·have iw:=hid hgg;have HI:=hid aX;have ar:=hid (gI.out wr b false _ _ bC aX.rd);simp only[Bool.not_false,Bool.true_and]at ar;have eS:=aX.rd.le;have yi:=aX.fuel;clear hgg aX fu;obtain⟨u1,dD⟩:∃u,isS ts b [42]=u:=⟨_,rfl⟩;rw[dD]at ar;cases u1
   ·go_wp2_with fail;refine ar.out.mono ?_
    rintro e wm ⟨rfl,hd⟩;have ea:=hid (KR.of_ext (g:=g) (nv:=bC) hd.ext);have ej:=hid (HI.out.rd.keep hd.ext);have aP:=hid (fL.out wm b false _ _ bC ej.out);simp only[Bool.not_false,Bool.true_and]at aP;clear hd;obtain⟨u2,dm⟩:∃u,isS ts b [47]=u:=⟨_,rfl⟩;rw[dm]at aP;cases u2
    ·have eb:Hid (C=(some x,b)):=hid (by rw[HI.out.eq,EP mJ dD dm]);go_wp2_with fail;refine aP.out.mono ?_
     rintro e w4 ⟨rfl,hd⟩;have HE:=hid (And.intro ((HI.out.kr.trans ea.out).trans (KR.of_ext hd.ext)) (ej.out.keep hd.ext));clear hd;go_wp2_with fail
     (try simp only[Exit.inBlock,Exit.then])
     first
      |refine bodyPost_ret (results_none rfl _ _ _) rfl ?_
      |refine bodyPost_end (results_none rfl _ _ _) rfl ?_
     exact Ao.mkS eb.out HE.out.1 HE.out.2
    ·have gv:=Cb dm;have sV:IntKind.i64.wrap ((b:Int)+1)=(b:Int)+1:=IntWalk.i64_in _ (by omega);go_wp2_with fail;refine aP.out.mono ?_
     rintro e w4 ⟨rfl,hd⟩;have iv:=hid (ea.out.trans (KR.of_ext hd.ext));have dg:=hid (ej.out.keep hd.ext);have bu:=hid (fL.out w4 b false _ _ bC dg.out);simp only[Bool.not_false,Bool.true_and]at bu;rw[dm]at bu;clear hd;go_wp2_with fail;refine bu.out.mono ?_
     rintro e w5 ⟨rfl,hd⟩;have cG:=dg.out.keep hd.ext;have cI:=hid cG;have ex:=hid (iv.out.trans (KR.of_ext hd.ext));obtain⟨A2,c2,rfl⟩:=cG.row.shape;obtain⟨n1,dH⟩:∃n1,n1=(ns++Ah ns.length x).length:=⟨_,rfl⟩;obtain⟨⟨k0,k1,k2,k3,k4⟩,⟨f1,f2,f3,f4⟩,ox⟩:=cG.blk.five';have jL:1<=n1:=by rw[dH,Bl];have:=x.size_pos;omega
     have mt:n1<=b:=by rw[dH];exact cG.few
     rw[<-dH]at k3;have ir:=hid dH;have sS:IntKind.i64.wrap ((n1:Int)-1)=(n1:Int)-1:=IntWalk.i64_in _ (by omega);clear hd cG dH;go_upto_region 7 with fail;have ac:=cI.out.stepR gv;obtain⟨w6,iy⟩:∃w6,w6=w5.setCell ⟨g,1,none⟩ (.int .i64 ((b:Int)+1)):=⟨_,rfl⟩;rw[<-iy]at ac ⊢;have ff:=hid (ex.out.trans ac.2);have ee:=hid (aO.out (b+1) (by have:=HI.out.lo;omega) w6 _ _ _ ac.1);have dc:=HG.out (b+1) gv;obtain⟨r,hr⟩:∃r,op (b+1)=r:=⟨_,rfl⟩;have lD:Hid (C=GW op ts [42] [47] 8 9 (mJ-1) 9 x r):=hid (by rw[HI.out.eq,H5 (by omega) dD dm,hr]);rw[hr]at dc;clear ac iy k0 k1 k2 k3 k4 f1 f2 f3 f4;go_wp2_with fail;refine ee.out.mono ?_
     intro e w7 al;obtain⟨_|y,b'⟩:=r
     ·obtain⟨rfl,jH,pS,pU,bc,hk⟩:=al.none_ hr;have em:=dc.1;simp only at em;have gC:=dc.2.1;simp only at gC;have HF:Hid (LoR g ts tv ns nv lg w C op [42] [47] 8 9 a b' w7):=hid (.inl ⟨lD.out,jH,pS,pU,bc,(HI.out.kr.trans ff.out).trans hk⟩);obtain⟨⟨k0,k1,k2,k3,k4⟩,⟨f1,f2,f3,f4⟩,hO⟩:=bc.blk.five';clear al hr bc hk dc;go_wp2_with fail
      go_roundg (ts.length-b')
      case rel=>exact⟨b',rfl,HF.out⟩
      case measure=>rw[iw.out];omega
     ·obtain⟨rfl,jH,bc,hk⟩:=al.some_ hr;have kS:=dc.2.2 y rfl;have gC:=dc.2.1;simp only at kS gC;have iN:=hid hk;have gA:((ns++Ah ns.length x)++Ah (ns++Ah ns.length x).length y).length+1<=b':=by have:=HI.out.sz;rw[Bl,Bl];omega
      have bq:=hid (BX g w7 ts b' false _ _ tv jH 9 ((n1:Int)-1) 0 [] bc gA);rw[show str []= .string ⟨#[]⟩ from rfl,Gx (by decide)]at bq;obtain⟨n2,hn2⟩:∃n2,n2=((ns++Ah ns.length x)++Ah (ns++Ah ns.length x).length y).length:=⟨_,rfl⟩;rw[<-hn2]at bq;have ef:=hid hn2;obtain⟨⟨k0,k1,k2,k3,k4⟩,⟨f1,f2,f3,f4⟩,hO⟩:=bc.blk.five';clear al hr bc hk dc hn2 gA;go_wp2_with fail;refine bq.out.mono ?_
      rintro e w8 ⟨pR,rfl,dw,cw⟩;have HF:Hid (LoR g ts tv ns nv lg w C op [42] [47] 8 9 a b' w8):=hid (.inr ⟨mJ-1,.bin 9 x y,pR,HI.out.next lD.out kS cw ir.out ef.out ff.out iN.out dw⟩);clear dw cw;go_wp2_with fail
      go_roundg (ts.length-b')
      case rel=>exact⟨b',rfl,HF.out⟩
      case measure=>rw[iw.out];omega
   ·have gv:=Cb dD;have sV:IntKind.i64.wrap ((b:Int)+1)=(b:Int)+1:=IntWalk.i64_in _ (by omega);have dm:=Ou (d:=[47]) dD (by decide);go_wp2_with fail;refine ar.out.mono ?_
    rintro e w4 ⟨rfl,hd⟩;have iv:=hid (KR.of_ext (g:=g) (nv:=bC) hd.ext);have dg:=hid (HI.out.rd.keep hd.ext);have bu:=hid (fL.out w4 b false _ _ bC dg.out);simp only[Bool.not_false,Bool.true_and]at bu;rw[dm]at bu;clear hd;go_wp2_with fail;refine bu.out.mono ?_
    rintro e w5 ⟨rfl,hd⟩;have cG:=dg.out.keep hd.ext;have cI:=hid cG;have ex:=hid (iv.out.trans (KR.of_ext hd.ext));obtain⟨A2,c2,rfl⟩:=cG.row.shape;obtain⟨n1,dH⟩:∃n1,n1=(ns++Ah ns.length x).length:=⟨_,rfl⟩;obtain⟨⟨k0,k1,k2,k3,k4⟩,⟨f1,f2,f3,f4⟩,ox⟩:=cG.blk.five';have jL:1<=n1:=by rw[dH,Bl];have:=x.size_pos;omega
    have mt:n1<=b:=by rw[dH];exact cG.few
    rw[<-dH]at k3;have ir:=hid dH;have sS:IntKind.i64.wrap ((n1:Int)-1)=(n1:Int)-1:=IntWalk.i64_in _ (by omega);clear hd cG dH;go_upto_region 7 with fail;have ac:=cI.out.stepR gv;obtain⟨w6,iy⟩:∃w6,w6=w5.setCell ⟨g,1,none⟩ (.int .i64 ((b:Int)+1)):=⟨_,rfl⟩;rw[<-iy]at ac ⊢;have ff:=hid (ex.out.trans ac.2);have ee:=hid (aO.out (b+1) (by have:=HI.out.lo;omega) w6 _ _ _ ac.1);have dc:=HG.out (b+1) gv;obtain⟨r,hr⟩:∃r,op (b+1)=r:=⟨_,rfl⟩;have lD:Hid (C=GW op ts [42] [47] 8 9 (mJ-1) 8 x r):=hid (by rw[HI.out.eq,H6 (by omega) dD,hr]);rw[hr]at dc;clear ac iy k0 k1 k2 k3 k4 f1 f2 f3 f4;go_wp2_with fail;refine ee.out.mono ?_
    intro e w7 al;obtain⟨_|y,b'⟩:=r
    ·obtain⟨rfl,jH,pS,pU,bc,hk⟩:=al.none_ hr;have em:=dc.1;simp only at em;have gC:=dc.2.1;simp only at gC;have HF:Hid (LoR g ts tv ns nv lg w C op [42] [47] 8 9 a b' w7):=hid (.inl ⟨lD.out,jH,pS,pU,bc,(HI.out.kr.trans ff.out).trans hk⟩);obtain⟨⟨k0,k1,k2,k3,k4⟩,⟨f1,f2,f3,f4⟩,hO⟩:=bc.blk.five';clear al hr bc hk dc;go_wp2_with fail
     go_roundg (ts.length-b')
     case rel=>exact⟨b',rfl,HF.out⟩
     case measure=>rw[iw.out];omega
    ·obtain⟨rfl,jH,bc,hk⟩:=al.some_ hr;have kS:=dc.2.2 y rfl;have gC:=dc.2.1;simp only at kS gC;have iN:=hid hk;have gA:((ns++Ah ns.length x)++Ah (ns++Ah ns.length x).length y).length+1<=b':=by have:=HI.out.sz;rw[Bl,Bl];omega
     have bq:=hid (BX g w7 ts b' false _ _ tv jH 8 ((n1:Int)-1) 0 [] bc gA);rw[show str []= .string ⟨#[]⟩ from rfl,Gx (by decide)]at bq;obtain⟨n2,hn2⟩:∃n2,n2=((ns++Ah ns.length x)++Ah (ns++Ah ns.length x).length y).length:=⟨_,rfl⟩;rw[<-hn2]at bq;have ef:=hid hn2;obtain⟨⟨k0,k1,k2,k3,k4⟩,⟨f1,f2,f3,f4⟩,hO⟩:=bc.blk.five';clear al hr bc hk dc hn2 gA;go_wp2_with fail;refine bq.out.mono ?_
     rintro e w8 ⟨pR,rfl,dw,cw⟩;have HF:Hid (LoR g ts tv ns nv lg w C op [42] [47] 8 9 a b' w8):=hid (.inr ⟨mJ-1,.bin 8 x y,pR,HI.out.next lD.out kS cw ir.out ef.out ff.out iN.out dw⟩);clear dw cw;go_wp2_with fail
     go_roundg (ts.length-b')
     case rel=>exact⟨b',rfl,HF.out⟩
     case measure=>rw[iw.out];omega
theorem QP(g:Nat)(ts:List Tok)(tv:Value)(iI:∀t∈ts,BS t)(f:Nat):∀a,ts.length<a+f->Sg g ts tv f a:=by
 induction f with
 |zero=>intro a ha w ns lg nv h;have:=h.le;omega
 |succ f ih=>
  intro a ha w ns lg nv h;have aO:Hid (∀a',a<=a'->∀w ns lg nv,RdR g w ts a' false ns lg tv nv->Calls Tryz.prog 128 #[.pointer (some ⟨g,0,none⟩)] w (Ao g ts tv ns nv lg (FI (AZ ts f) ts a') w)):=
   hid (fun a' ha w ns lg nv h=>Ky g ts tv f a' iI (fun b hb=>ih b (by omega)) w ns lg nv h)
  have HG:=hid (IU (DE ts f));obtain⟨C,hC⟩:∃C,CS (FI (AZ ts f) ts) ts [43] [45] 6 7 a=C:=⟨_,rfl⟩;rw[show AZ ts (f+1) a=CS (FI (AZ ts f) ts) ts [43] [45] 6 7 a from rfl,hC];generalize FI (AZ ts f) ts=op at *;clear ih iI ha;have gI:=hid (fun W a bad ns lg nv h=>CF g W ts a bad ns lg tv nv [43] h);have fL:=hid (fun W a bad ns lg nv h=>CF g W ts a bad ns lg tv nv [45] h);rw[show str [43]= .string ⟨#[43]⟩ from rfl]at gI;rw[show str [45]= .string ⟨#[45]⟩ from rfl]at fL;have cx:=h.le;have eI:=h.max;have ei:=h.few;have HC:Hid (∀r,op a=r->C=match r with|(none,b)=>(none,b)|(some x,b)=>Bt op ts [43] [45] 6 7 ts.length x b):=hid (fun r hr=>by rw[<-hC];unfold CS;rw[hr]<;>(obtain⟨_|x,b⟩:=r<;>rfl));have fm:=HG.out a cx;have HO:=hid (aO.out a (Nat.le_refl _) w ns lg nv h);clear h hC;go_enter Tryz.func66,Tryz.ntmps66;go_wp2_with fail;refine HO.out.mono ?_
  intro e w3 al;have ac:e= .returned (.tuple #[])/\∃b,LoR g ts tv ns nv lg w C op [43] [45] 6 7 a b w3:=by
   obtain⟨r,hr⟩:∃r,op a=r:=⟨_,rfl⟩;have hC:=HC.out r hr;rw[hr]at fm;obtain⟨_|x,b⟩:=r
   ·obtain⟨rfl,bC,jp,jr,bc,hk⟩:=al.none_ hr;exact⟨rfl,b,.inl ⟨hC,bC,jp,jr,bc,hk⟩⟩
   ·obtain⟨rfl,bC,bc,hk⟩:=al.some_ hr;have tY:=fm.2.2 x rfl;have em:=fm.1;simp only at tY em;exact⟨rfl,b,.inr ⟨ts.length,x,bC,bc,hk,hC,by omega,em,by omega⟩⟩
  obtain⟨rfl,b0,iE⟩:=ac;have fu:=hid iE;clear al iE fm HO HC;go_wp2_with fail
  go_loopg [] (ts.length-b0) (fun gh wr=>∃b,gh=ts.length-b/\LoR g ts tv ns nv lg w C op [43] [45] 6 7 a b wr)
  case atStart=>exact⟨b0,rfl,fu.out⟩
  case round=>
   obtain⟨b,hgg,⟨oz,bC,jp,jr,bc,tR⟩|⟨mJ,x,bC,aX⟩⟩:=hrel
   ·have HE:=hid (And.intro tR bc);have zR:=hid oz;have ag:=hid (gI.out wr b true jp jr bC bc);simp only[Bool.not_true,Bool.false_and]at ag;clear hgg oz bc tR fu;go_wp2_with fail;refine ag.out.mono ?_
    rintro e w4 ⟨rfl,hd⟩;have eV:=hid (And.intro (HE.out.1.trans (KR.of_ext hd.ext)) (HE.out.2.keep hd.ext));have aY:=hid (fL.out w4 b true jp jr bC eV.out.2);simp only[Bool.not_true,Bool.false_and]at aY;clear hd;go_wp2_with fail;refine aY.out.mono ?_
    rintro e w5 ⟨rfl,hd⟩;have iO:=hid (And.intro (eV.out.1.trans (KR.of_ext hd.ext)) (eV.out.2.keep hd.ext));clear hd;go_wp2_with fail
    (try simp only[Exit.inBlock,Exit.then])
    first
     |refine bodyPost_ret (results_none rfl _ _ _) rfl ?_
     |refine bodyPost_end (results_none rfl _ _ _) rfl ?_
    exact Ao.mkN zR.out iO.out.1 iO.out.2
   ·have iw:=hid hgg;have HI:=hid aX;have ar:=hid (gI.out wr b false _ _ bC aX.rd);simp only[Bool.not_false,Bool.true_and]at ar;have eS:=aX.rd.le;have yi:=aX.fuel;clear hgg aX fu;obtain⟨u1,dD⟩:∃u,isS ts b [43]=u:=⟨_,rfl⟩;rw[dD]at ar;cases u1
    ·go_wp2_with fail;refine ar.out.mono ?_
     rintro e wm ⟨rfl,hd⟩;have ea:=hid (KR.of_ext (g:=g) (nv:=bC) hd.ext);have ej:=hid (HI.out.rd.keep hd.ext);have aP:=hid (fL.out wm b false _ _ bC ej.out);simp only[Bool.not_false,Bool.true_and]at aP;clear hd;obtain⟨u2,dm⟩:∃u,isS ts b [45]=u:=⟨_,rfl⟩;rw[dm]at aP;cases u2
     ·have eb:Hid (C=(some x,b)):=hid (by rw[HI.out.eq,EP mJ dD dm]);go_wp2_with fail;refine aP.out.mono ?_
      rintro e w4 ⟨rfl,hd⟩;have HE:=hid (And.intro ((HI.out.kr.trans ea.out).trans (KR.of_ext hd.ext)) (ej.out.keep hd.ext));clear hd;go_wp2_with fail
      (try simp only[Exit.inBlock,Exit.then])
      first
       |refine bodyPost_ret (results_none rfl _ _ _) rfl ?_
       |refine bodyPost_end (results_none rfl _ _ _) rfl ?_
      exact Ao.mkS eb.out HE.out.1 HE.out.2
     ·have gv:=Cb dm;have sV:IntKind.i64.wrap ((b:Int)+1)=(b:Int)+1:=IntWalk.i64_in _ (by omega);go_wp2_with fail;refine aP.out.mono ?_
      rintro e w4 ⟨rfl,hd⟩;have iv:=hid (ea.out.trans (KR.of_ext hd.ext));have dg:=hid (ej.out.keep hd.ext);have bu:=hid (fL.out w4 b false _ _ bC dg.out);simp only[Bool.not_false,Bool.true_and]at bu;rw[dm]at bu;clear hd;go_wp2_with fail;refine bu.out.mono ?_
      rintro e w5 ⟨rfl,hd⟩;have cG:=dg.out.keep hd.ext;have cI:=hid cG;have ex:=hid (iv.out.trans (KR.of_ext hd.ext));obtain⟨A2,c2,rfl⟩:=cG.row.shape;obtain⟨n1,dH⟩:∃n1,n1=(ns++Ah ns.length x).length:=⟨_,rfl⟩;obtain⟨⟨k0,k1,k2,k3,k4⟩,⟨f1,f2,f3,f4⟩,ox⟩:=cG.blk.five';have jL:1<=n1:=by rw[dH,Bl];have:=x.size_pos;omega
      have mt:n1<=b:=by rw[dH];exact cG.few
      rw[<-dH]at k3;have ir:=hid dH;have sS:IntKind.i64.wrap ((n1:Int)-1)=(n1:Int)-1:=IntWalk.i64_in _ (by omega);clear hd cG dH;go_upto_region 7 with fail;have ac:=cI.out.stepR gv;obtain⟨w6,iy⟩:∃w6,w6=w5.setCell ⟨g,1,none⟩ (.int .i64 ((b:Int)+1)):=⟨_,rfl⟩;rw[<-iy]at ac ⊢;have ff:=hid (ex.out.trans ac.2);have ee:=hid (aO.out (b+1) (by have:=HI.out.lo;omega) w6 _ _ _ ac.1);have dc:=HG.out (b+1) gv;obtain⟨r,hr⟩:∃r,op (b+1)=r:=⟨_,rfl⟩;have lD:Hid (C=GW op ts [43] [45] 6 7 (mJ-1) 7 x r):=hid (by rw[HI.out.eq,H5 (by omega) dD dm,hr]);rw[hr]at dc;clear ac iy k0 k1 k2 k3 k4 f1 f2 f3 f4;go_wp2_with fail;refine ee.out.mono ?_
      intro e w7 al;obtain⟨_|y,b'⟩:=r
      ·obtain⟨rfl,jH,pS,pU,bc,hk⟩:=al.none_ hr;have em:=dc.1;simp only at em;have gC:=dc.2.1;simp only at gC;have HF:Hid (LoR g ts tv ns nv lg w C op [43] [45] 6 7 a b' w7):=hid (.inl ⟨lD.out,jH,pS,pU,bc,(HI.out.kr.trans ff.out).trans hk⟩);obtain⟨⟨k0,k1,k2,k3,k4⟩,⟨f1,f2,f3,f4⟩,hO⟩:=bc.blk.five';clear al hr bc hk dc;go_wp2_with fail
       go_roundg (ts.length-b')
       case rel=>exact⟨b',rfl,HF.out⟩
       case measure=>rw[iw.out];omega
      ·obtain⟨rfl,jH,bc,hk⟩:=al.some_ hr;have kS:=dc.2.2 y rfl;have gC:=dc.2.1;simp only at kS gC;have iN:=hid hk;have gA:((ns++Ah ns.length x)++Ah (ns++Ah ns.length x).length y).length+1<=b':=by have:=HI.out.sz;rw[Bl,Bl];omega
       have bq:=hid (BX g w7 ts b' false _ _ tv jH 7 ((n1:Int)-1) 0 [] bc gA);rw[show str []= .string ⟨#[]⟩ from rfl,Gx (by decide)]at bq;obtain⟨n2,hn2⟩:∃n2,n2=((ns++Ah ns.length x)++Ah (ns++Ah ns.length x).length y).length:=⟨_,rfl⟩;rw[<-hn2]at bq;have ef:=hid hn2;obtain⟨⟨k0,k1,k2,k3,k4⟩,⟨f1,f2,f3,f4⟩,hO⟩:=bc.blk.five';clear al hr bc hk dc hn2 gA;go_wp2_with fail;refine bq.out.mono ?_
       rintro e w8 ⟨pR,rfl,dw,cw⟩;have HF:Hid (LoR g ts tv ns nv lg w C op [43] [45] 6 7 a b' w8):=hid (.inr ⟨mJ-1,.bin 7 x y,pR,HI.out.next lD.out kS cw ir.out ef.out ff.out iN.out dw⟩);clear dw cw;go_wp2_with fail
       go_roundg (ts.length-b')
       case rel=>exact⟨b',rfl,HF.out⟩
       case measure=>rw[iw.out];omega
    ·have gv:=Cb dD;have sV:IntKind.i64.wrap ((b:Int)+1)=(b:Int)+1:=IntWalk.i64_in _ (by omega);have dm:=Ou (d:=[45]) dD (by decide);go_wp2_with fail;refine ar.out.mono ?_
     rintro e w4 ⟨rfl,hd⟩;have iv:=hid (KR.of_ext (g:=g) (nv:=bC) hd.ext);have dg:=hid (HI.out.rd.keep hd.ext);have bu:=hid (fL.out w4 b false _ _ bC dg.out);simp only[Bool.not_false,Bool.true_and]at bu;rw[dm]at bu;clear hd;go_wp2_with fail;refine bu.out.mono ?_
     rintro e w5 ⟨rfl,hd⟩;have cG:=dg.out.keep hd.ext;have cI:=hid cG;have ex:=hid (iv.out.trans (KR.of_ext hd.ext));obtain⟨A2,c2,rfl⟩:=cG.row.shape;obtain⟨n1,dH⟩:∃n1,n1=(ns++Ah ns.length x).length:=⟨_,rfl⟩;obtain⟨⟨k0,k1,k2,k3,k4⟩,⟨f1,f2,f3,f4⟩,ox⟩:=cG.blk.five';have jL:1<=n1:=by rw[dH,Bl];have:=x.size_pos;omega
     have mt:n1<=b:=by rw[dH];exact cG.few
     rw[<-dH]at k3;have ir:=hid dH;have sS:IntKind.i64.wrap ((n1:Int)-1)=(n1:Int)-1:=IntWalk.i64_in _ (by omega);clear hd cG dH;go_upto_region 7 with fail;have ac:=cI.out.stepR gv;obtain⟨w6,iy⟩:∃w6,w6=w5.setCell ⟨g,1,none⟩ (.int .i64 ((b:Int)+1)):=⟨_,rfl⟩;rw[<-iy]at ac ⊢;have ff:=hid (ex.out.trans ac.2);have ee:=hid (aO.out (b+1) (by have:=HI.out.lo;omega) w6 _ _ _ ac.1);have dc:=HG.out (b+1) gv;obtain⟨r,hr⟩:∃r,op (b+1)=r:=⟨_,rfl⟩;have lD:Hid (C=GW op ts [43] [45] 6 7 (mJ-1) 6 x r):=hid (by rw[HI.out.eq,H6 (by omega) dD,hr]);rw[hr]at dc;clear ac iy k0 k1 k2 k3 k4 f1 f2 f3 f4;go_wp2_with fail;refine ee.out.mono ?_
     intro e w7 al;obtain⟨_|y,b'⟩:=r
     ·obtain⟨rfl,jH,pS,pU,bc,hk⟩:=al.none_ hr;have em:=dc.1;simp only at em;have gC:=dc.2.1;simp only at gC;have HF:Hid (LoR g ts tv ns nv lg w C op [43] [45] 6 7 a b' w7):=hid (.inl ⟨lD.out,jH,pS,pU,bc,(HI.out.kr.trans ff.out).trans hk⟩);obtain⟨⟨k0,k1,k2,k3,k4⟩,⟨f1,f2,f3,f4⟩,hO⟩:=bc.blk.five';clear al hr bc hk dc;go_wp2_with fail
      go_roundg (ts.length-b')
      case rel=>exact⟨b',rfl,HF.out⟩
      case measure=>rw[iw.out];omega
     ·obtain⟨rfl,jH,bc,hk⟩:=al.some_ hr;have kS:=dc.2.2 y rfl;have gC:=dc.2.1;simp only at kS gC;have iN:=hid hk;have gA:((ns++Ah ns.length x)++Ah (ns++Ah ns.length x).length y).length+1<=b':=by have:=HI.out.sz;rw[Bl,Bl];omega
      have bq:=hid (BX g w7 ts b' false _ _ tv jH 6 ((n1:Int)-1) 0 [] bc gA);rw[show str []= .string ⟨#[]⟩ from rfl,Gx (by decide)]at bq;obtain⟨n2,hn2⟩:∃n2,n2=((ns++Ah ns.length x)++Ah (ns++Ah ns.length x).length y).length:=⟨_,rfl⟩;rw[<-hn2]at bq;have ef:=hid hn2;obtain⟨⟨k0,k1,k2,k3,k4⟩,⟨f1,f2,f3,f4⟩,hO⟩:=bc.blk.five';clear al hr bc hk dc hn2 gA;go_wp2_with fail;refine bq.out.mono ?_
      rintro e w8 ⟨pR,rfl,dw,cw⟩;have HF:Hid (LoR g ts tv ns nv lg w C op [43] [45] 6 7 a b' w8):=hid (.inr ⟨mJ-1,.bin 6 x y,pR,HI.out.next lD.out kS cw ir.out ef.out ff.out iN.out dw⟩);clear dw cw;go_wp2_with fail
      go_roundg (ts.length-b')
      case rel=>exact⟨b',rfl,HF.out⟩
      case measure=>rw[iw.out];omega
end Big
end Go.Proofs.YtkoaogkknnelaaaGreatDoor
