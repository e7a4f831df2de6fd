import Derived.Test.YtkoaogkknnelaaaGreatDoorM23
set_option linter.unusedVariables false
set_option linter.unusedSimpArgs false
set_option maxHeartbeats 8000000
set_option maxRecDepth 100000
namespace Go.Proofs.YtkoaogkknnelaaaGreatDoor
namespace Big
open Lib (hid)
open Go.RowKit
structure RdR (g:Nat) (w:World) (ts:List Tok) (a:Nat) (bad:Bool) (ns:List Nd) (lg:Bool) (tv nv:Value):Prop where
 blk:Blk w g 120 #[tv,.int .i64 (a:Int),.bool bad,nv,.bool lg]
 row:AU (g+1) w nv ns
 tok:Iy g w tv ts
 few:ns.length<=a
 le:a<=ts.length
 max:ts.length<=1000000
section
variable {g:Nat} {w w':World} {ts:List Tok} {a:Nat} {bad lg:Bool} {ns:List Nd} {tv nv:Value}
theorem RdR.keep(h:RdR g w ts a bad ns lg tv nv)(hx:Ext w w'):RdR g w' ts a bad ns lg tv nv:=
 ⟨h.blk.ext hx,h.row.ext hx,h.tok.below (Below.mono hx (Nat.le_of_lt h.blk.lt)),h.few,h.le,h.max⟩
theorem Blk.five'{t:TypeId}{c1 c2 c3 c4 c5:Value}(h:Blk w g t #[c1,c2,c3,c4,c5]):(w.cell? ⟨g,0,none⟩=some c1/\w.cell? ⟨g,1,none⟩=some c2/\w.cell? ⟨g,2,none⟩=some c3/\w.cell? ⟨g,3,none⟩=some c4/\w.cell? ⟨g,4,none⟩=some c5)/\(w.frozen? ⟨g,1,none⟩=false/\w.frozen? ⟨g,2,none⟩=false/\w.frozen? ⟨g,3,none⟩=false/\w.frozen? ⟨g,4,none⟩=false)/\g<w.heap.size:=
 ⟨⟨h.cell 0,h.cell 1,h.cell 2,h.cell 3,h.cell 4⟩,⟨h.frozen 1,h.frozen 2,h.frozen 3,h.frozen 4⟩,h.lt⟩
theorem KR.set(h:Below g w w)(o:Nat)(u:Value):KR g nv nv w (w.setCell ⟨g,o,none⟩ u):=by
 have hb:Below g w (w.setCell ⟨g,o,none⟩ u):=Below.setCell h (p:=⟨g,o,none⟩) (Nat.le_refl _) _;exact⟨hb.os,hb.tape,hb.output,hb.size,fun k _ hk _=>Below.heap_setCell _ _ _ k hk,fun _ hj=> .inl hj⟩
theorem RdR.stepR(h:RdR g w ts a bad ns lg tv nv)(ha:a<ts.length):RdR g (w.setCell ⟨g,1,none⟩ (.int .i64 ((a:Int)+1))) ts (a+1) bad ns lg tv nv/\KR g nv nv w (w.setCell ⟨g,1,none⟩ (.int .i64 ((a:Int)+1))):=by
 have hk:KR g nv nv w (w.setCell ⟨g,1,none⟩ (.int .i64 ((a:Int)+1))):=KR.set (Below.refl g w) 1 _;have hb:Below g w (w.setCell ⟨g,1,none⟩ (.int .i64 ((a:Int)+1))):=Below.setCell (Below.refl g w) (p:=⟨g,1,none⟩) (Nat.le_refl _) _;refine⟨⟨?_,h.row.kept (fun k hk _=>Below.heap_setCell _ _ _ k (by show k≠g;omega)),h.tok.below hb,by have:=h.few;omega,ha,h.max⟩,hk⟩;have h3:=h.blk.set_ 1 (.int .i64 ((a:Int)+1));rw[Int.natCast_add];exact h3
theorem RdR.fail(h:RdR g w ts a bad ns lg tv nv):RdR g (w.setCell ⟨g,2,none⟩ (.bool true)) ts a true ns lg tv nv/\KR g nv nv w (w.setCell ⟨g,2,none⟩ (.bool true)):=by
 have hk:KR g nv nv w (w.setCell ⟨g,2,none⟩ (.bool true)):=KR.set (Below.refl g w) 2 _;have hb:Below g w (w.setCell ⟨g,2,none⟩ (.bool true)):=Below.setCell (Below.refl g w) (p:=⟨g,2,none⟩) (Nat.le_refl _) _;exact⟨⟨h.blk.set_ 2 (.bool true),h.row.kept (fun k hk _=>Below.heap_setCell _ _ _ k (by show k≠g;omega)),h.tok.below hb,h.few,h.le,h.max⟩,hk⟩
theorem RdR.large(h:RdR g w ts a bad ns lg tv nv)(l2:Bool):RdR g (w.setCell ⟨g,4,none⟩ (.bool l2)) ts a bad ns l2 tv nv/\KR g nv nv w (w.setCell ⟨g,4,none⟩ (.bool l2)):=by
 have hk:KR g nv nv w (w.setCell ⟨g,4,none⟩ (.bool l2)):=KR.set (Below.refl g w) 4 _;have hb:Below g w (w.setCell ⟨g,4,none⟩ (.bool l2)):=Below.setCell (Below.refl g w) (p:=⟨g,4,none⟩) (Nat.le_refl _) _;exact⟨⟨h.blk.set_ 4 (.bool l2),h.row.kept (fun k hk _=>Below.heap_setCell _ _ _ k (by show k≠g;omega)),h.tok.below hb,h.few,h.le,h.max⟩,hk⟩
end
theorem CL(g:Nat)(w:World)(ts:List Tok)(a:Nat)(bad:Bool)(ns:List Nd)(lg:Bool)(tv nv:Value)(c:List UInt8)(h:RdR g w ts a bad ns lg tv nv):
  Calls Tryz.prog 129 #[.pointer (some ⟨g,0,none⟩),str c] w fun e w'=>e= .returned (.bool (!bad && isS ts a c))/\Dr w w':=by
 have hb:=h.blk;have hn:=h.row;obtain⟨A,c0,rfl,aa⟩:=h.tok;obtain⟨A2,c2,rfl⟩:=hn.shape;have cp:=h.le;have ft:=h.max;obtain⟨⟨k0,k1,k2,k3,k4⟩,_,hg⟩:=hb.five';clear hb hn h;cases bad
 ·obtain⟨n,eK⟩:∃n,n=ts.length:=⟨_,rfl⟩;rw[<-eK]at k0 cp ft;have li:=hid eK;clear eK;rcases Nat.lt_or_ge a n with hlt|fE
  ·have hlt2:a<ts.length:=by rw[<-li.out];exact hlt
   obtain⟨b,rfl,_,_,hc⟩:=aa (by omega);obtain⟨q0,q1,q2⟩:=hc a hlt2;have hI:isS ts a c=((ts[a].kind == 3) && (ts[a].text == c)):=by
    unfold isS;rw[List.getElem?_eq_getElem hlt2]
   have HI:=hid hI;clear hI aa hc;generalize ts[a].kind=tk at *;generalize ts[a].text=tx at *;generalize isS ts a c=r at *;have z1:decide (a<n)=true:=decide_eq_true hlt;cases hk:(tk == 3)
   ·have hk2:((tk:Int) == 3)=false:=by
     rw[beq_eq_false_iff_ne]at hk ⊢;omega
    rw[hk]at HI;clear hk;go_enter Tryz.func129,Tryz.ntmps129;go_wp2_with fail;go_quiet (fail);go_wp2_with fail;go_ret;exact⟨by rw[HI.out];rfl,(Dr.refl w).drewN _⟩
   ·have hk2:((tk:Int) == 3)=true:=by
     rw[beq_iff_eq]at hk ⊢;omega
    rw[hk]at HI;clear hk;go_enter Tryz.func129,Tryz.ntmps129;go_wp2_with fail;go_quiet (fail);go_wp2_with fail;go_ret;exact⟨by rw[HI.out];rfl,(Dr.refl w).drewN _⟩
  ·have HI:Hid (isS ts a c=false):=hid (by
    unfold isS;rw[List.getElem?_eq_none (by rw[<-li.out];exact fE)])
   have z1:decide (a<n)=false:=decide_eq_false (by omega);have z2:¬(a:Int)<(n:Int):=by omega
   clear aa;go_enter Tryz.func129,Tryz.ntmps129;go_wp2_with fail;go_quiet (fail);go_wp2_with fail;go_ret;exact⟨by rw[HI.out];rfl,(Dr.refl w).drewN _⟩
 ·clear aa;go_enter Tryz.func129,Tryz.ntmps129;go_wp2_with fail;go_quiet (fail);go_wp2_with fail;go_ret;exact⟨rfl,(Dr.refl w).drewN _⟩
theorem Dn(g:Nat)(w:World)(ts:List Tok)(a:Nat)(bad:Bool)(ns:List Nd)(lg:Bool)(tv nv:Value)(c:List UInt8)(h:RdR g w ts a bad ns lg tv nv):
  Calls Tryz.prog 268 #[.pointer (some ⟨g,0,none⟩),str c] w fun e w'=>e= .returned (.tuple #[])/\KR g nv nv w w'/\RdR g w' ts (if (!bad && isS ts a c)=true then a+1 else a) (!(!bad && isS ts a c)) ns lg tv nv:=by
 have HS:=hid (CL g w ts a bad ns lg tv nv c h);have H:=hid h;have ft:=h.max;have cp:=h.le;cases hs:(!bad && isS ts a c)
 ·rw[hs]at HS;clear h hs;go_enter Tryz.func268,Tryz.ntmps268;go_wp2_with fail;refine HS.out.mono ?_
  rintro e w1 ⟨rfl,hd⟩;have hr:=H.out.keep hd.ext;have HR:=hid hr;have HD:=hid hd;obtain⟨⟨k0,k1,k2,k3,k4⟩,⟨f1,f2,f3,f4⟩,hg⟩:=hr.blk.five';clear hd hr;go_wp2_with fail;go_end0;have h3:=HR.out.fail;exact⟨rfl,(KR.of_ext HD.out.ext).trans h3.2,h3.1⟩
 ·rw[hs]at HS;have hlt:=Cl (Bool.and_eq_true_iff.1 hs).2;have zP:bad=false:=by have:=(Bool.and_eq_true_iff.1 hs).1;simpa using this
  subst zP;have aZ:IntKind.i64.wrap ((a:Int)+1)=(a:Int)+1:=IntWalk.i64_in _ (by omega);clear h hs;go_enter Tryz.func268,Tryz.ntmps268;go_wp2_with fail;refine HS.out.mono ?_
  rintro e w1 ⟨rfl,hd⟩;have hr:=H.out.keep hd.ext;have HR:=hid hr;have HD:=hid hd;obtain⟨⟨k0,k1,k2,k3,k4⟩,⟨f1,f2,f3,f4⟩,hg⟩:=hr.blk.five';clear hd hr;go_wp2_with fail
  (try simp only[Exit.inBlock,Exit.then])
  refine bodyPost_ret (results_none rfl _ _ _) rfl ?_
  have h3:=HR.out.stepR hlt;exact⟨rfl,(KR.of_ext HD.out.ext).trans h3.2,h3.1⟩
def Ep(k first z:Int)(len:Nat)(t:List UInt8):Nd:=if Ay k=1 then ⟨k,(len:Int)-1,0,z,t⟩ else if Ay k=2 then ⟨k,first,(len:Int)-1,z,t⟩ else ⟨k,0,0,z,t⟩
theorem B7(g:Nat)(w:World)(ts:List Tok)(a:Nat)(bad:Bool)(ns:List Nd)(lg:Bool)(tv nv:Value)(k first z:Int)(t:List UInt8)(h:RdR g w ts a bad ns lg tv nv)(hf:ns.length+1<=a):
  Calls Tryz.prog 130 #[.pointer (some ⟨g,0,none⟩),.int .i64 k,.int .i64 first,.int .i64 z,str t] w fun e w'=>∃nv',e= .returned (.tuple #[])/\KR g nv nv' w w'/\RdR g w' ts a bad (ns++[Ep k first z ns.length t]) lg tv nv':=by
 have ay:=h.blk;have be:=h.row;have HT:=hid h.tok;have cp:=h.le;have ft:=h.max;have HB:=hid ay;have HR:=hid be;obtain⟨A,c,rfl⟩:=be.shape;have er:=ay.lt;obtain⟨i0,hi,aE,hz1,ba⟩:=info_parts FJ;obtain⟨s,hs⟩:∃s:ByteArray,s=⟨t.toArray⟩:=⟨_,rfl⟩;have sV:Hid (str t= .string s):=hid (by rw[hs];rfl);rw[sV.out];clear hs h be;have aT:=hid (fun W=>BB W k);obtain⟨⟨k0,k1,k2,k3,k4⟩,⟨f1,f2,f3,f4⟩,_⟩:=ay.five';clear ay;obtain⟨n,hn⟩:∃n,n=ns.length:=⟨_,rfl⟩;rw[<-hn]at hf k3 ⊢;have HN:=hid hn;clear hn;have aZ:IntKind.i64.wrap ((n:Int)-1)=(n:Int)-1:=IntWalk.i64_in _ (by omega);have key:=Fk k;have uM:∀q:Int,¬q=1->(q == 1)=false:=fun q h=>by rw[beq_eq_false_iff_ne];exact h
 clear uM;have h3:(Ay k≠1/\Ay k≠2)\/Ay k=1\/Ay k=2:=by omega
 rcases h3 with ⟨uJ,uI⟩|aS|aS
 ·have b1:(Ay k == 1)=false:=by rw[beq_eq_false_iff_ne];exact uJ
  have b2:(Ay k == 2)=false:=by rw[beq_eq_false_iff_ne];exact uI
  have ip:Hid (Ep k first z ns.length t=⟨k,0,0,z,t⟩):=hid (by unfold Ep;rw[if_neg uJ,if_neg uI]);generalize Ay k=op at *;go_enter Tryz.func130,Tryz.ntmps130;go_wp2_with fail;refine(aT.out _).mono ?_
  rintro e w2 ⟨rfl,rfl⟩;obtain⟨w0,dx⟩:∃w0,w0=w.alloc (.cells #[.int .i64 k,.int .i64 0,.int .i64 0,.int .i64 z,.string s] 95):=⟨_,rfl⟩;have hx0:Ext w w0:=by rw[dx];exact((Ext.refl w).alloc _)
  have nX:Blk w0 w.heap.size 95 #[.int .i64 k,.int .i64 0,.int .i64 0,.int .i64 z,.string s]:=by rw[dx];exact(Blk.new w _ _)
  have bK:w0.heap.size=w.heap.size+1:=by rw[dx];simp
  have ak:=hid (HB.out.ext hx0);have lf:=hid (HR.out.ext hx0);have cq:=hid hx0;have aF:ns.length=n:=HN.out.symm;have qH:Hid (w.ownsRow (g+1) 95 5 (.slice A n c) n (C6 ns)):=hid (by have h:=HR.out;unfold AU at h;rw[aF]at h;exact h);have hne:∀q,(Value.slice A n c).ownBlock=some q->g≠q:=fun q hq=>by have:=AW qH.out q hq;omega
  have jy:Hid (∀w':World,(w0.alloc (.cells #[.int .i64 k,.int .i64 0,.int .i64 0,.int .i64 z,.string s] 95)).drew.grownBy w' (Value.slice A n c).ownBlock->Blk w' g 120 #[tv,.int .i64 (a:Int),.bool bad,.slice A n c,.bool lg]/\(Below g w0 w'/\∀q,q<w.heap.size->(Value.slice A n c).ownBlock≠some q->w'.heap[q]? =w.heap[q]?)):=hid (fun w' aQ=>by
   refine⟨?_,?_⟩
   ·have h1:=aQ.block g (show g<(w0.alloc (.cells #[.int .i64 k,.int .i64 0,.int .i64 0,.int .i64 z,.string s] 95)).drew.heap.size by simp;omega) (fun e=>hne g e.symm rfl);have h2:=(ak.out.alloc (.cells #[.int .i64 k,.int .i64 0,.int .i64 0,.int .i64 z,.string s] 95)).drew;rw[aF]at h2;exact h1.trans h2
   ·refine⟨(((Below.refl g w0).alloc (by omega) _).drew).grown aQ (by simp;omega) (fun q hq=>by have:=AW qH.out q hq;omega),fun q hq hne2=> ?_⟩;have h1:=aQ.block q (show q<(w0.alloc (.cells #[.int .i64 k,.int .i64 0,.int .i64 0,.int .i64 z,.string s] 95)).drew.heap.size by simp;omega) (fun e=>hne2 e.symm);rw[h1];exact(Below.heap_alloc w0 _ q (by omega)).trans (hx0.block q hq))
  have cQ:Hid (∀(j:Nat) (u:Value),[Value.int .i64 k,Value.int .i64 0,Value.int .i64 0,Value.int .i64 z,Value.string s][j]? =some u->(w0.alloc (.cells #[.int .i64 k,.int .i64 0,.int .i64 0,.int .i64 z,.string s] 95)).drew.cell? ((⟨w0.heap.size,0,none⟩:Addr).add j)=some u):=hid (C3 w0 95 [.int .i64 k,.int .i64 0,.int .i64 0,.int .i64 z,.string s]);have io:Hid ((w0.alloc (.cells #[.int .i64 k,.int .i64 0,.int .i64 0,.int .i64 z,.string s] 95)).drew.ownsRow (g+1) 95 5 (.slice A n c) n (C6 ns)):=hid (by
   have h:=Aj lf.out (w':=(w0.alloc (.cells #[.int .i64 k,.int .i64 0,.int .i64 0,.int .i64 z,.string s] 95)).drew) (fun k _ hk=>Below.heap_alloc w0 _ k hk);rw[aF]at h;exact h)
  have ai:Hid (n+1<=maxLen):=hid (by unfold maxLen;omega);have a6:Hid ((n+1)*48<=140737488355328):=hid (by omega);have a8:Hid (g+1<=(w0.alloc (.cells #[.int .i64 k,.int .i64 0,.int .i64 0,.int .i64 z,.string s] 95)).drew.heap.size):=hid (by simp;omega);have pL:Hid (ndC (Ep k first z ns.length t)=[.int .i64 k,.int .i64 0,.int .i64 0,.int .i64 z,.string s]):=hid (by rw[ip.out];(try rw[aF]);simp only[ndC,sV.out]);rw[bK]at cQ;have HZ:=hid dx;have q0:=nX.five;obtain⟨⟨k0,k1,k2,k3,k4⟩,⟨f1,f2,f3,f4⟩,lE⟩:=ak.out.five';rw[aF]at k3;clear hne hx0 nX dx aF;go_upto_region 6 with fail;rw[<-HZ.out];clear HZ
  go_region_law (refine step_append_lies _ rfl (.tmp 41) (.tmp 43) 32 rfl (g+1) 95 i0 _ 5 48 Tryz.underlying32 hi aE hz1 ba rfl (by decide) _ n (C6 ns) rfl io.out ⟨w.heap.size+1,0,none⟩ 1 1 [.int .i64 k,.int .i64 0,.int .i64 0,.int .i64 z,.string s] rfl rfl cQ.out (by simp[Value.oneCell']) (by decide) ai.out a6.out a8.out _ rfl ?_;intro g' c' w' aG aQ hat hlt;have pO:=hid aG;have HM:=hid (jy.out w' aQ);have fP:=hid hat;clear aG aQ hat;obtain⟨⟨m0,m1,m2,m3,m4⟩,⟨n1,n2,n3,n4⟩,rW⟩:=HM.out.1.five')
  all_goals
   have eh:=HM.out.1.set_ 3 (.slice (some ⟨g',0,none⟩) (n+1) c');have gH:=hid ((Below.mono cq.out (Nat.le_of_lt er)).trans (HM.out.2.1.setCell (p:=⟨g,3,none⟩) (Nat.le_refl _) (.slice (some ⟨g',0,none⟩) (n+1) c')));have HF:Hid (RdR g (w'.setCell ⟨g,3,none⟩ (.slice (some ⟨g',0,none⟩) (n+1) c')) ts a bad (ns++[Ep k first z ns.length t]) lg tv (.slice (some ⟨g',0,none⟩) (n+1) c')):=hid ⟨eh,by
     have h3:=pO.out;unfold AU;rw[Dx,Fm,pL.out,List.length_append,List.length_singleton,<-HN.out];exact Aj h3 (fun k hk _=>Below.heap_setCell _ _ _ k (by show k≠g;omega)),HT.out.below gH.out,by rw[List.length_append,List.length_singleton,<-HN.out];exact hf,cp,ft⟩
   have qM:Hid (KR g (.slice A n c) (.slice (some ⟨g',0,none⟩) (n+1) c') w (w'.setCell ⟨g,3,none⟩ (.slice (some ⟨g',0,none⟩) (n+1) c'))):=hid ⟨gH.out.os,gH.out.tape,gH.out.output,gH.out.size,fun q h1 h2 h3=>(Below.heap_setCell _ _ _ q h2).trans (HM.out.2.2 q h1 h3),fun j hj=>by
     simp only[Value.ownBlock,Option.some.injEq]at hj;subst hj;rcases fP.out with h4|h4
     ·exact .inl h4
     ·right
      rw[h4];simp;omega⟩
   clear eh;go_wp2_with fail;go_end0;rw[HN.out]at qM HF ⊢;exact⟨_,rfl,qM.out,HF.out⟩
 ·have ip:Hid (Ep k first z ns.length t=⟨k,(ns.length:Int)-1,0,z,t⟩):=hid (by unfold Ep;rw[if_pos aS]);rw[aS]at aT;clear aS key;go_enter Tryz.func130,Tryz.ntmps130;go_wp2_with fail;refine(aT.out _).mono ?_
  rintro e w2 ⟨rfl,rfl⟩;go_upto_region 6 with fail;obtain⟨w0,dx⟩:∃w0,w0=w.alloc (.cells #[.int .i64 k,.int .i64 ((n:Int)-1),.int .i64 0,.int .i64 z,.string s] 95):=⟨_,rfl⟩;have hx0:Ext w w0:=by rw[dx];exact((Ext.refl w).alloc _)
  have nX:Blk w0 w.heap.size 95 #[.int .i64 k,.int .i64 ((n:Int)-1),.int .i64 0,.int .i64 z,.string s]:=by rw[dx];exact(Blk.new w _ _)
  have bK:w0.heap.size=w.heap.size+1:=by rw[dx];simp
  have ak:=hid (HB.out.ext hx0);have lf:=hid (HR.out.ext hx0);have cq:=hid hx0;have aF:ns.length=n:=HN.out.symm;have qH:Hid (w.ownsRow (g+1) 95 5 (.slice A n c) n (C6 ns)):=hid (by have h:=HR.out;unfold AU at h;rw[aF]at h;exact h);have hne:∀q,(Value.slice A n c).ownBlock=some q->g≠q:=fun q hq=>by have:=AW qH.out q hq;omega
  have jy:Hid (∀w':World,(w0.alloc (.cells #[.int .i64 k,.int .i64 ((n:Int)-1),.int .i64 0,.int .i64 z,.string s] 95)).drew.grownBy w' (Value.slice A n c).ownBlock->Blk w' g 120 #[tv,.int .i64 (a:Int),.bool bad,.slice A n c,.bool lg]/\(Below g w0 w'/\∀q,q<w.heap.size->(Value.slice A n c).ownBlock≠some q->w'.heap[q]? =w.heap[q]?)):=hid (fun w' aQ=>by
   refine⟨?_,?_⟩
   ·have h1:=aQ.block g (show g<(w0.alloc (.cells #[.int .i64 k,.int .i64 ((n:Int)-1),.int .i64 0,.int .i64 z,.string s] 95)).drew.heap.size by simp;omega) (fun e=>hne g e.symm rfl);have h2:=(ak.out.alloc (.cells #[.int .i64 k,.int .i64 ((n:Int)-1),.int .i64 0,.int .i64 z,.string s] 95)).drew;rw[aF]at h2;exact h1.trans h2
   ·refine⟨(((Below.refl g w0).alloc (by omega) _).drew).grown aQ (by simp;omega) (fun q hq=>by have:=AW qH.out q hq;omega),fun q hq hne2=> ?_⟩;have h1:=aQ.block q (show q<(w0.alloc (.cells #[.int .i64 k,.int .i64 ((n:Int)-1),.int .i64 0,.int .i64 z,.string s] 95)).drew.heap.size by simp;omega) (fun e=>hne2 e.symm);rw[h1];exact(Below.heap_alloc w0 _ q (by omega)).trans (hx0.block q hq))
  have cQ:Hid (∀(j:Nat) (u:Value),[Value.int .i64 k,Value.int .i64 ((n:Int)-1),Value.int .i64 0,Value.int .i64 z,Value.string s][j]? =some u->(w0.alloc (.cells #[.int .i64 k,.int .i64 ((n:Int)-1),.int .i64 0,.int .i64 z,.string s] 95)).drew.cell? ((⟨w0.heap.size,0,none⟩:Addr).add j)=some u):=hid (C3 w0 95 [.int .i64 k,.int .i64 ((n:Int)-1),.int .i64 0,.int .i64 z,.string s]);have io:Hid ((w0.alloc (.cells #[.int .i64 k,.int .i64 ((n:Int)-1),.int .i64 0,.int .i64 z,.string s] 95)).drew.ownsRow (g+1) 95 5 (.slice A n c) n (C6 ns)):=hid (by
   have h:=Aj lf.out (w':=(w0.alloc (.cells #[.int .i64 k,.int .i64 ((n:Int)-1),.int .i64 0,.int .i64 z,.string s] 95)).drew) (fun k _ hk=>Below.heap_alloc w0 _ k hk);rw[aF]at h;exact h)
  have ai:Hid (n+1<=maxLen):=hid (by unfold maxLen;omega);have a6:Hid ((n+1)*48<=140737488355328):=hid (by omega);have a8:Hid (g+1<=(w0.alloc (.cells #[.int .i64 k,.int .i64 ((n:Int)-1),.int .i64 0,.int .i64 z,.string s] 95)).drew.heap.size):=hid (by simp;omega);have pL:Hid (ndC (Ep k first z ns.length t)=[.int .i64 k,.int .i64 ((n:Int)-1),.int .i64 0,.int .i64 z,.string s]):=hid (by rw[ip.out];(try rw[aF]);simp only[ndC,sV.out]);rw[bK]at cQ;have HZ:=hid dx;have q0:=nX.five;obtain⟨⟨k0,k1,k2,k3,k4⟩,⟨f1,f2,f3,f4⟩,lE⟩:=ak.out.five';rw[aF]at k3;clear hne hx0 nX dx aF;go_upto_region 6 with fail;rw[<-HZ.out];clear HZ
  go_region_law (refine step_append_lies _ rfl (.tmp 41) (.tmp 43) 32 rfl (g+1) 95 i0 _ 5 48 Tryz.underlying32 hi aE hz1 ba rfl (by decide) _ n (C6 ns) rfl io.out ⟨w.heap.size+1,0,none⟩ 1 1 [.int .i64 k,.int .i64 ((n:Int)-1),.int .i64 0,.int .i64 z,.string s] rfl rfl cQ.out (by simp[Value.oneCell']) (by decide) ai.out a6.out a8.out _ rfl ?_;intro g' c' w' aG aQ hat hlt;have pO:=hid aG;have HM:=hid (jy.out w' aQ);have fP:=hid hat;clear aG aQ hat;obtain⟨⟨m0,m1,m2,m3,m4⟩,⟨n1,n2,n3,n4⟩,rW⟩:=HM.out.1.five')
  all_goals
   have eh:=HM.out.1.set_ 3 (.slice (some ⟨g',0,none⟩) (n+1) c');have gH:=hid ((Below.mono cq.out (Nat.le_of_lt er)).trans (HM.out.2.1.setCell (p:=⟨g,3,none⟩) (Nat.le_refl _) (.slice (some ⟨g',0,none⟩) (n+1) c')));have HF:Hid (RdR g (w'.setCell ⟨g,3,none⟩ (.slice (some ⟨g',0,none⟩) (n+1) c')) ts a bad (ns++[Ep k first z ns.length t]) lg tv (.slice (some ⟨g',0,none⟩) (n+1) c')):=hid ⟨eh,by
     have h3:=pO.out;unfold AU;rw[Dx,Fm,pL.out,List.length_append,List.length_singleton,<-HN.out];exact Aj h3 (fun k hk _=>Below.heap_setCell _ _ _ k (by show k≠g;omega)),HT.out.below gH.out,by rw[List.length_append,List.length_singleton,<-HN.out];exact hf,cp,ft⟩
   have qM:Hid (KR g (.slice A n c) (.slice (some ⟨g',0,none⟩) (n+1) c') w (w'.setCell ⟨g,3,none⟩ (.slice (some ⟨g',0,none⟩) (n+1) c'))):=hid ⟨gH.out.os,gH.out.tape,gH.out.output,gH.out.size,fun q h1 h2 h3=>(Below.heap_setCell _ _ _ q h2).trans (HM.out.2.2 q h1 h3),fun j hj=>by
     simp only[Value.ownBlock,Option.some.injEq]at hj;subst hj;rcases fP.out with h4|h4
     ·exact .inl h4
     ·right
      rw[h4];simp;omega⟩
   clear eh;go_wp2_with fail;go_end0;rw[HN.out]at qM HF ⊢;exact⟨_,rfl,qM.out,HF.out⟩
 ·have ip:Hid (Ep k first z ns.length t=⟨k,first,(ns.length:Int)-1,z,t⟩):=hid (by unfold Ep;rw[if_neg (by rw[aS];decide),if_pos aS]);rw[aS]at aT;clear aS key;go_enter Tryz.func130,Tryz.ntmps130;go_wp2_with fail;refine(aT.out _).mono ?_
  rintro e w2 ⟨rfl,rfl⟩;go_upto_region 5 with fail;go_region
  all_goals go_upto_region 6 with fail
  obtain⟨w0,dx⟩:∃w0,w0=(w.alloc (.cells #[.int .i64 k,.int .i64 first,.int .i64 ((n:Int)-1),.int .i64 z,.string s] 95)).drew:=⟨_,rfl⟩;have hx0:Ext w w0:=by rw[dx];exact((Ext.refl w).alloc _).drew
  have nX:Blk w0 w.heap.size 95 #[.int .i64 k,.int .i64 first,.int .i64 ((n:Int)-1),.int .i64 z,.string s]:=by rw[dx];exact(Blk.new w _ _).drew
  have bK:w0.heap.size=w.heap.size+1:=by rw[dx];simp
  have ak:=hid (HB.out.ext hx0);have lf:=hid (HR.out.ext hx0);have cq:=hid hx0;have aF:ns.length=n:=HN.out.symm;have qH:Hid (w.ownsRow (g+1) 95 5 (.slice A n c) n (C6 ns)):=hid (by have h:=HR.out;unfold AU at h;rw[aF]at h;exact h);have hne:∀q,(Value.slice A n c).ownBlock=some q->g≠q:=fun q hq=>by have:=AW qH.out q hq;omega
  have jy:Hid (∀w':World,(w0.alloc (.cells #[.int .i64 k,.int .i64 first,.int .i64 ((n:Int)-1),.int .i64 z,.string s] 95)).drew.grownBy w' (Value.slice A n c).ownBlock->Blk w' g 120 #[tv,.int .i64 (a:Int),.bool bad,.slice A n c,.bool lg]/\(Below g w0 w'/\∀q,q<w.heap.size->(Value.slice A n c).ownBlock≠some q->w'.heap[q]? =w.heap[q]?)):=hid (fun w' aQ=>by
   refine⟨?_,?_⟩
   ·have h1:=aQ.block g (show g<(w0.alloc (.cells #[.int .i64 k,.int .i64 first,.int .i64 ((n:Int)-1),.int .i64 z,.string s] 95)).drew.heap.size by simp;omega) (fun e=>hne g e.symm rfl);have h2:=(ak.out.alloc (.cells #[.int .i64 k,.int .i64 first,.int .i64 ((n:Int)-1),.int .i64 z,.string s] 95)).drew;rw[aF]at h2;exact h1.trans h2
   ·refine⟨(((Below.refl g w0).alloc (by omega) _).drew).grown aQ (by simp;omega) (fun q hq=>by have:=AW qH.out q hq;omega),fun q hq hne2=> ?_⟩;have h1:=aQ.block q (show q<(w0.alloc (.cells #[.int .i64 k,.int .i64 first,.int .i64 ((n:Int)-1),.int .i64 z,.string s] 95)).drew.heap.size by simp;omega) (fun e=>hne2 e.symm);rw[h1];exact(Below.heap_alloc w0 _ q (by omega)).trans (hx0.block q hq))
  have cQ:Hid (∀(j:Nat) (u:Value),[Value.int .i64 k,Value.int .i64 first,Value.int .i64 ((n:Int)-1),Value.int .i64 z,Value.string s][j]? =some u->(w0.alloc (.cells #[.int .i64 k,.int .i64 first,.int .i64 ((n:Int)-1),.int .i64 z,.string s] 95)).drew.cell? ((⟨w0.heap.size,0,none⟩:Addr).add j)=some u):=hid (C3 w0 95 [.int .i64 k,.int .i64 first,.int .i64 ((n:Int)-1),.int .i64 z,.string s]);have io:Hid ((w0.alloc (.cells #[.int .i64 k,.int .i64 first,.int .i64 ((n:Int)-1),.int .i64 z,.string s] 95)).drew.ownsRow (g+1) 95 5 (.slice A n c) n (C6 ns)):=hid (by
   have h:=Aj lf.out (w':=(w0.alloc (.cells #[.int .i64 k,.int .i64 first,.int .i64 ((n:Int)-1),.int .i64 z,.string s] 95)).drew) (fun k _ hk=>Below.heap_alloc w0 _ k hk);rw[aF]at h;exact h)
  have ai:Hid (n+1<=maxLen):=hid (by unfold maxLen;omega);have a6:Hid ((n+1)*48<=140737488355328):=hid (by omega);have a8:Hid (g+1<=(w0.alloc (.cells #[.int .i64 k,.int .i64 first,.int .i64 ((n:Int)-1),.int .i64 z,.string s] 95)).drew.heap.size):=hid (by simp;omega);have pL:Hid (ndC (Ep k first z ns.length t)=[.int .i64 k,.int .i64 first,.int .i64 ((n:Int)-1),.int .i64 z,.string s]):=hid (by rw[ip.out];(try rw[aF]);simp only[ndC,sV.out]);rw[bK]at cQ;have HZ:=hid dx;have q0:=nX.five;obtain⟨⟨k0,k1,k2,k3,k4⟩,⟨f1,f2,f3,f4⟩,lE⟩:=ak.out.five';rw[aF]at k3;clear hne hx0 nX dx aF;go_upto_region 6 with fail;rw[<-HZ.out];clear HZ
  go_region_law (refine step_append_lies _ rfl (.tmp 41) (.tmp 43) 32 rfl (g+1) 95 i0 _ 5 48 Tryz.underlying32 hi aE hz1 ba rfl (by decide) _ n (C6 ns) rfl io.out ⟨w.heap.size+1,0,none⟩ 1 1 [.int .i64 k,.int .i64 first,.int .i64 ((n:Int)-1),.int .i64 z,.string s] rfl rfl cQ.out (by simp[Value.oneCell']) (by decide) ai.out a6.out a8.out _ rfl ?_;intro g' c' w' aG aQ hat hlt;have pO:=hid aG;have HM:=hid (jy.out w' aQ);have fP:=hid hat;clear aG aQ hat;obtain⟨⟨m0,m1,m2,m3,m4⟩,⟨n1,n2,n3,n4⟩,rW⟩:=HM.out.1.five')
  all_goals
   have eh:=HM.out.1.set_ 3 (.slice (some ⟨g',0,none⟩) (n+1) c');have gH:=hid ((Below.mono cq.out (Nat.le_of_lt er)).trans (HM.out.2.1.setCell (p:=⟨g,3,none⟩) (Nat.le_refl _) (.slice (some ⟨g',0,none⟩) (n+1) c')));have HF:Hid (RdR g (w'.setCell ⟨g,3,none⟩ (.slice (some ⟨g',0,none⟩) (n+1) c')) ts a bad (ns++[Ep k first z ns.length t]) lg tv (.slice (some ⟨g',0,none⟩) (n+1) c')):=hid ⟨eh,by
     have h3:=pO.out;unfold AU;rw[Dx,Fm,pL.out,List.length_append,List.length_singleton,<-HN.out];exact Aj h3 (fun k hk _=>Below.heap_setCell _ _ _ k (by show k≠g;omega)),HT.out.below gH.out,by rw[List.length_append,List.length_singleton,<-HN.out];exact hf,cp,ft⟩
   have qM:Hid (KR g (.slice A n c) (.slice (some ⟨g',0,none⟩) (n+1) c') w (w'.setCell ⟨g,3,none⟩ (.slice (some ⟨g',0,none⟩) (n+1) c'))):=hid ⟨gH.out.os,gH.out.tape,gH.out.output,gH.out.size,fun q h1 h2 h3=>(Below.heap_setCell _ _ _ q h2).trans (HM.out.2.2 q h1 h3),fun j hj=>by
     simp only[Value.ownBlock,Option.some.injEq]at hj;subst hj;rcases fP.out with h4|h4
     ·exact .inl h4
     ·right
      rw[h4];simp;omega⟩
   clear eh;go_wp2_with fail;go_end0;rw[HN.out]at qM HF ⊢;exact⟨_,rfl,qM.out,HF.out⟩
def SN(g:Nat)(ts:List Tok)(tv:Value)(F:FuncId):Prop:=∀w a ns lg nv,RdR g w ts a true ns lg tv nv->Calls Tryz.prog F #[.pointer (some ⟨g,0,none⟩)] w fun e w'=>e= .returned (.tuple #[])/\KR g nv nv w w'/\RdR g w' ts a true ns lg tv nv
theorem PG(g:Nat)(ts:List Tok)(tv:Value):SN g ts tv 240:=by
 intro w a ns lg nv h;have H:=hid h;obtain⟨⟨k0,k1,k2,k3,k4⟩,⟨f1,f2,f3,f4⟩,hg⟩:=h.blk.five';clear h;go_enter Tryz.func240,Tryz.ntmps240;go_wp2_with fail;go_quiet (fail);go_wp2_with fail
 (try simp only[Exit.inBlock,Exit.then])
 refine bodyPost_ret (results_none rfl _ _ _) rfl ?_
 have h3:=(H.out.keep ((Ext.refl w).drewN nq)).fail;exact⟨rfl,(KR.of_ext ((Ext.refl w).drewN nq)).trans h3.2,h3.1⟩
theorem Nt(g:Nat)(ts:List Tok)(tv:Value):SN g ts tv 206:=by
 intro w a ns lg nv h;have iu:=hid (fun W a ns lg nv h=>CL g W ts a true ns lg tv nv [94] h);rw[show str [94]= .string ⟨#[94]⟩ from rfl]at iu;simp only[Bool.not_true,Bool.false_and]at iu;have HE:Hid (KR g nv nv w w/\RdR g w ts a true ns lg tv nv):=hid ⟨KR.of_ext (Ext.refl w),h⟩;clear h;go_enter Tryz.func206,Tryz.ntmps206;go_wp2_with fail;refine(PG g ts tv _ _ _ _ _ HE.out.2).mono ?_
 rintro e w1 ⟨rfl,hk,hr⟩;have HE:=hid (And.intro (HE.out.1.trans hk) hr);clear hk hr;go_wp2_with fail;refine(iu.out _ _ _ _ _ HE.out.2).mono ?_
 rintro e w2 ⟨rfl,hd⟩;have HE:=hid (And.intro (HE.out.1.trans (KR.of_ext hd.ext)) (HE.out.2.keep hd.ext));clear hd;go_wp2_with fail
 (try simp only[Exit.inBlock,Exit.then])
 first
  |refine bodyPost_ret (results_none rfl _ _ _) rfl ?_
  |refine bodyPost_end (results_none rfl _ _ _) rfl ?_
 exact⟨rfl,HE.out.1,HE.out.2⟩
theorem Nv(g:Nat)(ts:List Tok)(tv:Value):SN g ts tv 172:=by
 intro w a ns lg nv h;have iu:=hid (fun W a ns lg nv h=>CL g W ts a true ns lg tv nv [45] h);rw[show str [45]= .string ⟨#[45]⟩ from rfl]at iu;simp only[Bool.not_true,Bool.false_and]at iu;have HE:Hid (KR g nv nv w w/\RdR g w ts a true ns lg tv nv):=hid ⟨KR.of_ext (Ext.refl w),h⟩;clear h;go_enter Tryz.func172,Tryz.ntmps172;go_wp2_with fail;refine(iu.out _ _ _ _ _ HE.out.2).mono ?_
 rintro e w1 ⟨rfl,hd⟩;have HE:=hid (And.intro (HE.out.1.trans (KR.of_ext hd.ext)) (HE.out.2.keep hd.ext));clear hd;go_wp2_with fail;refine(Nt g ts tv _ _ _ _ _ HE.out.2).mono ?_
 rintro e w2 ⟨rfl,hk,hr⟩;have HE:=hid (And.intro (HE.out.1.trans hk) hr);clear hk hr;go_wp2_with fail
 (try simp only[Exit.inBlock,Exit.then])
 first
  |refine bodyPost_ret (results_none rfl _ _ _) rfl ?_
  |refine bodyPost_end (results_none rfl _ _ _) rfl ?_
 exact⟨rfl,HE.out.1,HE.out.2⟩
theorem K2(g:Nat)(ts:List Tok)(tv:Value):SN g ts tv 128:=by
 intro w a ns lg nv h;have iu:=hid (fun W a ns lg nv h=>CL g W ts a true ns lg tv nv [42] h);rw[show str [42]= .string ⟨#[42]⟩ from rfl]at iu;simp only[Bool.not_true,Bool.false_and]at iu;have gF:=hid (fun W a ns lg nv h=>CL g W ts a true ns lg tv nv [47] h);rw[show str [47]= .string ⟨#[47]⟩ from rfl]at gF;simp only[Bool.not_true,Bool.false_and]at gF;have HE:Hid (KR g nv nv w w/\RdR g w ts a true ns lg tv nv):=hid ⟨KR.of_ext (Ext.refl w),h⟩;clear h;go_enter Tryz.func128,Tryz.ntmps128;go_wp2_with fail;refine(Nv g ts tv _ _ _ _ _ HE.out.2).mono ?_
 rintro e w1 ⟨rfl,hk,hr⟩;have HE:=hid (And.intro (HE.out.1.trans hk) hr);clear hk hr;go_wp2_with fail;go_loopw [] (fun wr=>KR g nv nv w wr/\RdR g wr ts a true ns lg tv nv) (fun _=>0)
 case atStart=>exact HE.out
 case round=>
  have HE:=hid hrel;clear hrel;go_wp2_with fail;refine(iu.out _ _ _ _ _ HE.out.2).mono ?_
  rintro e w2 ⟨rfl,hd⟩;have HE:=hid (And.intro (HE.out.1.trans (KR.of_ext hd.ext)) (HE.out.2.keep hd.ext));clear hd;go_wp2_with fail;refine(gF.out _ _ _ _ _ HE.out.2).mono ?_
  rintro e w3 ⟨rfl,hd⟩;have HE:=hid (And.intro (HE.out.1.trans (KR.of_ext hd.ext)) (HE.out.2.keep hd.ext));clear hd;go_wp2_with fail
  (try simp only[Exit.inBlock,Exit.then])
  first
   |refine bodyPost_ret (results_none rfl _ _ _) rfl ?_
   |refine bodyPost_end (results_none rfl _ _ _) rfl ?_
  exact⟨rfl,HE.out.1,HE.out.2⟩
theorem Q8(g:Nat)(ts:List Tok)(tv:Value):SN g ts tv 66:=by
 intro w a ns lg nv h;have iu:=hid (fun W a ns lg nv h=>CL g W ts a true ns lg tv nv [43] h);rw[show str [43]= .string ⟨#[43]⟩ from rfl]at iu;simp only[Bool.not_true,Bool.false_and]at iu;have gF:=hid (fun W a ns lg nv h=>CL g W ts a true ns lg tv nv [45] h);rw[show str [45]= .string ⟨#[45]⟩ from rfl]at gF;simp only[Bool.not_true,Bool.false_and]at gF;have HE:Hid (KR g nv nv w w/\RdR g w ts a true ns lg tv nv):=hid ⟨KR.of_ext (Ext.refl w),h⟩;clear h;go_enter Tryz.func66,Tryz.ntmps66;go_wp2_with fail;refine(K2 g ts tv _ _ _ _ _ HE.out.2).mono ?_
 rintro e w1 ⟨rfl,hk,hr⟩;have HE:=hid (And.intro (HE.out.1.trans hk) hr);clear hk hr;go_wp2_with fail;go_loopw [] (fun wr=>KR g nv nv w wr/\RdR g wr ts a true ns lg tv nv) (fun _=>0)
 case atStart=>exact HE.out
 case round=>
  have HE:=hid hrel;clear hrel;go_wp2_with fail;refine(iu.out _ _ _ _ _ HE.out.2).mono ?_
  rintro e w2 ⟨rfl,hd⟩;have HE:=hid (And.intro (HE.out.1.trans (KR.of_ext hd.ext)) (HE.out.2.keep hd.ext));clear hd;go_wp2_with fail;refine(gF.out _ _ _ _ _ HE.out.2).mono ?_
  rintro e w3 ⟨rfl,hd⟩;have HE:=hid (And.intro (HE.out.1.trans (KR.of_ext hd.ext)) (HE.out.2.keep hd.ext));clear hd;go_wp2_with fail
  (try simp only[Exit.inBlock,Exit.then])
  first
   |refine bodyPost_ret (results_none rfl _ _ _) rfl ?_
   |refine bodyPost_end (results_none rfl _ _ _) rfl ?_
  exact⟨rfl,HE.out.1,HE.out.2⟩
def Aw(g:Nat)(ts:List Tok)(tv:Value)(ns:List Nd)(nv:Value)(lg:Bool)(r:Option Ex × Nat)(w:World)(e:Ending)(w':World):Prop:=
 e= .returned (.tuple #[])/\∃nv',KR g nv nv' w w'/\match r with
  |(some x,b)=>RdR g w' ts b false (ns++Ak ns.length x) (lg || x.big) tv nv'
  |(none,b)=>∃ns' lg',RdR g w' ts b true ns' lg' tv nv'
section
variable {g:Nat} {ts:List Tok} {tv nv nv':Value} {ns:List Nd} {lg:Bool} {r:Option Ex × Nat} {w w':World} {e:Ending} {x:Ex} {b:Nat}
theorem Aw.some_(h:Aw g ts tv ns nv lg r w e w')(hr:r=(some x,b)):e= .returned (.tuple #[])/\∃nv',RdR g w' ts b false (ns++Ak ns.length x) (lg || x.big) tv nv'/\KR g nv nv' w w':=by
 subst hr;obtain⟨h1,nv',h2,h3⟩:=h;exact⟨h1,nv',h3,h2⟩
theorem Aw.none_(h:Aw g ts tv ns nv lg r w e w')(hr:r=(none,b)):e= .returned (.tuple #[])/\∃nv' ns' lg',RdR g w' ts b true ns' lg' tv nv'/\KR g nv nv' w w':=by
 subst hr;obtain⟨h1,nv',h2,ns',lg',h3⟩:=h;exact⟨h1,nv',ns',lg',h3,h2⟩
theorem Aw.mkN{ns':List Nd}{lg':Bool}(hr:r=(none,b))(hk:KR g nv nv' w w')(h:RdR g w' ts b true ns' lg' tv nv'):Aw g ts tv ns nv lg r w (.returned (.tuple #[])) w':=by
 subst hr;exact⟨rfl,nv',hk,ns',lg',h⟩
theorem Aw.mkS(hr:r=(some x,b))(hk:KR g nv nv' w w')(h:RdR g w' ts b false (ns++Ak ns.length x) (lg || x.big) tv nv'):Aw g ts tv ns nv lg r w (.returned (.tuple #[])) w':=by
 subst hr;exact⟨rfl,nv',hk,h⟩
theorem KR.kept1{n1 n2:Value}{q:Nat}{t:TypeId}{cs:Array Value}(hk:KR g n1 n2 w w')(hb:Blk w q t cs)(h1:q≠g)(h2:n1.ownBlock≠some q):Blk w' q t cs/\n2.ownBlock≠some q:=by
 refine⟨hk.blk hb h1 h2,fun e=> ?_⟩;have:=hb.lt;rcases hk.move _ e with h|h
 ·exact h2 h
 ·omega
theorem RdR.as(h:RdR g w ts b false ns lg tv nv){lg':Bool}(hl:lg=lg'){ns':List Nd}(hn:ns=ns'):RdR g w ts b false ns' lg' tv nv:=by subst hl;subst hn;exact h
end
theorem PR(p:Nat->Option Ex × Nat){ts:List Tok}{a:Nat}(hlt2:a<ts.length):CS p ts a=(if ts[a].kind=3 then FO p ts a
   else if ts[a].kind=1 then (some (.leaf 1 ts[a].text),a+1)
   else if Bw ts[a].text≠0 then (match FO p ts (a+1) with|(none,b)=>(none,b)|(some x,b)=>(some (.un (Bw ts[a].text) 0 x),b))
   else if ts[a].text=[112,105] then (some (.leaf 3 []),a+1)
   else if ts[a].text=[101] then (some (.leaf 4 []),a+1)
   else (some (.leaf 2 ts[a].text),a+1)):=by
 have hs:isS ts a [40]=((ts[a].kind == 3) && (ts[a].text == [40])):=by
  unfold isS;rw[List.getElem?_eq_getElem hlt2]
 unfold CS;rw[List.getElem?_eq_getElem hlt2];simp only;by_cases h3:ts[a].kind=3
 ·rw[if_pos h3,if_pos h3];unfold FO;rw[hs,h3];by_cases h4:ts[a].text=[40]
  ·rw[if_pos h4,h4];rfl
  ·rw[if_neg h4,if_neg (by simp[h4])]
 ·rw[if_neg h3,if_neg h3];split
  ·rfl
  ·split
   ·unfold FO;by_cases h5:isS ts (a+1) [40]=true
    ·rw[if_pos h5,if_pos h5];rcases p (a+1+1) with ⟨_|x,b⟩
     ·rfl
     ·simp only;by_cases h6:isS ts b [41]=true
      ·rw[if_pos h6,if_pos h6]
      ·rw[if_neg h6,if_neg h6]
    ·rw[if_neg h5,if_neg h5]
   ·rfl
theorem Mg{B sz n:Nat}{e:TypeId}{w:World}{v:Value}{xs:List Value}(h:w.ownsRow B e sz v n xs)(g:Nat)(hg:v.ownBlock=some g):g<w.heap.size:=by
 rcases h.2 with ⟨rfl,h2⟩|⟨g',cap,cur,rfl,hb,hh,_⟩
 ·cases hg
 ·simp only[Value.ownBlock,Option.some.injEq]at hg;subst hg;rcases Nat.lt_or_ge g' w.heap.size with h|h
  ·exact h
  ·rw[Array.getElem?_eq_none h]at hh;cases hh
def SI(g:Nat)(ts:List Tok)(tv:Value)(f a:Nat):Prop:=
 ∀w ns lg nv,RdR g w ts a false ns lg tv nv->Calls Tryz.prog 66 #[.pointer (some ⟨g,0,none⟩)] w (Aw g ts tv ns nv lg (Bh ts f a) w)
theorem NY(c:UInt8)(h:FR c.toNat=true):Bw [c]=0/\([c]:List UInt8)≠[112,105]/\([c]:List UInt8)≠[101]:=by
 have hall:∀n:Fin 256,FR n.val=true->Bw [UInt8.ofNat n.val]=0/\n.val≠101:=by decide+kernel
 have h1:=hall ⟨c.toNat,UInt8.toNat_lt c⟩ h;rw[UInt8.ofNat_toNat]at h1;refine⟨h1.1,by simp,fun e=>h1.2 ?_⟩;injection e with e _
 rw[e];rfl
theorem PH(g:Nat)(ts:List Tok)(tv:Value)(f a:Nat)(jp:∀t∈ts,Cz t)(hs:∀a',a<a'->SI g ts tv f a')(w:World)(ns:List Nd)(lg:Bool)(nv:Value)(h:RdR g w ts a false ns lg tv nv):
  Calls Tryz.prog 240 #[.pointer (some ⟨g,0,none⟩)] w (Aw g ts tv ns nv lg (CS (Bh ts f) ts a) w):=by
 have H:=hid h;have HS:=hid hs;have be:=h.row;obtain⟨A,c0,rfl,aa⟩:=h.tok;have aG:nv.ownBlock≠some w.heap.size:=fun e=>by have:=(Mg h.row _ e);omega
 have V3:=hid aG;obtain⟨A2,c2,rfl⟩:=be.shape;have cp:=h.le;have ft:=h.max;have eX:=h.few;obtain⟨⟨k0,k1,k2,k3,k4⟩,⟨f1,f2,f3,f4⟩,hg⟩:=h.blk.five';clear h hs be aG;obtain⟨n,eK⟩:∃n,n=ts.length:=⟨_,rfl⟩;rw[<-eK]at k0 cp ft;have li:=hid eK;clear eK;rcases Nat.lt_or_ge a n with hlt|fE
 ·have hlt2:a<ts.length:=by rw[<-li.out];exact hlt
  obtain⟨b,rfl,hbg,_,hc⟩:=aa (by omega);obtain⟨q0,q1,q2⟩:=hc a hlt2;have ev:ts[a].kind=1\/ts[a].kind=2\/(ts[a].kind=3/\∃c:UInt8,ts[a].text=[c]/\FR c.toNat=true):=by
   rcases jp ts[a] (List.getElem_mem hlt2) with ⟨h,_⟩|⟨h,_⟩|⟨h,c,h2,h3⟩
   ·exact .inl h
   ·exact .inr (.inl h)
   ·exact .inr (.inr ⟨h,c,h2,h3⟩)
  have hI:∀p,CS p ts a=(if ts[a].kind=3 then FO p ts a
   else if ts[a].kind=1 then (some (.leaf 1 ts[a].text),a+1)
   else if Bw ts[a].text≠0 then (match FO p ts (a+1) with|(none,b)=>(none,b)|(some x,b)=>(some (.un (Bw ts[a].text) 0 x),b))
   else if ts[a].text=[112,105] then (some (.leaf 3 []),a+1)
   else if ts[a].text=[101] then (some (.leaf 4 []),a+1)
   else (some (.leaf 2 ts[a].text),a+1)):=fun p=>PR p hlt2
  have HP:=hid (hI (Bh ts f));have rU:isS ts a [40]=((ts[a].kind == 3) && (ts[a].text == [40])):=by
   unfold isS;rw[List.getElem?_eq_getElem hlt2]
  clear hI aa hc jp;generalize ts[a].kind=tk at *;generalize ts[a].text=tx at *;generalize ts[a].at_=ta at *;generalize hR:CS (Bh ts f) ts a=R at *;clear hR;have z1:decide (n<=a)=false:=decide_eq_false (by omega);have z2:¬(n:Int)<=(a:Int):=by omega
  have aZ:IntKind.i64.wrap ((a:Int)+1)=(a:Int)+1:=IntWalk.i64_in _ (by omega);go_enter Tryz.func240,Tryz.ntmps240;go_wp2_with fail;go_quiet (fail);obtain⟨w1,rl⟩:∃w1,w1=w.drewN nq:=⟨_,rfl⟩;rw[<-rl];have hd:Dr w w1:=by rw[rl];exact(Dr.refl w).drewN _
  have kO:w1.heap.size=w.heap.size:=by rw[hd.heap]
  have xk:g<w1.heap.size:=by omega
  rw[<-hd.cell]at k0 k1 k2 k3 k4 q0 q1 q2;have iH:=hid hd.ext;have wm:Hid ((Value.slice A2 ns.length c2).ownBlock≠some w1.heap.size):=hid (by rw[kO];exact V3.out);have lH:b<w1.heap.size:=by omega
  clear rl hd kO f1 f2 f3 f4;go_upto_region 2 with fail;go_region;obtain⟨w2,cx⟩:∃w2,w2=(w1.alloc (.cells #[.int .i64 (tk:Int),.int .i64 (ta:Int),str tx] 122)).drew:=⟨_,rfl⟩;rw[<-cx];have ae:Ext w1 w2:=by rw[cx];exact((Ext.refl w1).alloc _).drew
  have hb2:Blk w2 w1.heap.size 122 #[.int .i64 (tk:Int),.int .i64 (ta:Int),str tx]:=by rw[cx];exact(Blk.new w1 _ _).drew
  have aI:=hid (iH.out.trans ae);have gA:=hid (H.out.keep (iH.out.trans ae));have a6:=hid hb2;have j0:=hb2.three';obtain⟨⟨k0,k1,k2,k3,k4⟩,⟨f1,f2,f3,f4⟩,sb⟩:=gA.out.blk.five';clear cx ae hb2 q0 q1 q2 z1 z2 lH;generalize w1.heap.size=gt at *;have lQ:=hid xk;have pr:∀q:Nat,(lg || (Ex.leaf q []).big)=lg:=fun q=>by rw[Ex.big,Bool.or_false]
  clear pr;by_cases h1:tk=1
  ·subst h1;have mR:Hid (R=(some (.leaf 1 tx),a+1)):=hid (by rw[HP.out,if_neg (by decide),if_pos rfl]);clear HP HS rU ev;go_upto_region 6 with fail;have hst:=gA.out.stepR hlt2;obtain⟨w3,fA⟩:∃w3,w3=w2.setCell ⟨g,1,none⟩ (.int .i64 ((a:Int)+1)):=⟨_,rfl⟩;rw[<-fA]at hst ⊢;have dW:Blk w3 gt 122 #[.int .i64 ((1:Nat):Int),.int .i64 (ta:Int),str tx]:=by
    rw[fA];exact a6.out.far (p:=⟨g,1,none⟩) (by show gt≠g;have:=lQ.out;omega) _
   have a8:=hid dW;have eI:=hid hst.1;have gE:=hid ((KR.of_ext aI.out).trans hst.2);have j0:=dW.three';clear hst fA dW k0 k1 k2 k3 k4 f1 f2 f3 f4;have bH:=hid (B7 g w3 ts (a+1) false ns lg _ _ 1 0 0 tx eI.out (by omega));go_wp2_with fail;refine bH.out.mono ?_
   rintro e w4 ⟨nv2,rfl,ep,ex⟩;have HE:=hid (And.intro (gE.out.trans ep) ex);clear ep ex;go_wp2_with fail
   (try simp only[Exit.inBlock,Exit.then])
   first
    |refine bodyPost_ret (results_none rfl _ _ _) rfl ?_
    |refine bodyPost_end (results_none rfl _ _ _) rfl ?_
   exact Aw.mkS mR.out HE.out.1 (HE.out.2.as (by rw[Ex.big,Bool.or_false]) rfl)
  ·have XV:((tk:Int) == 1)=false:=by rw[beq_eq_false_iff_ne];omega
   by_cases h3:tk=3
   ·subst h3;obtain⟨vp,jE,o9⟩:Bw tx=0/\tx≠[112,105]/\tx≠[101]:=by
     rcases ev with h|h|⟨_,c,h,hs⟩
     ·omega
     ·omega
     ·rw[h];exact NY c hs
    have hpb:(tx == [112,105])=false:=by rw[beq_eq_false_iff_ne];exact jE
    have zA:(tx == [101])=false:=by rw[beq_eq_false_iff_ne];exact o9
    have mR:Hid (R=FO (Bh ts f) ts a):=hid (by rw[HP.out,if_pos rfl]);have gG:=hid (FS w2 tx);rw[vp]at gG;have oL:=hid (fun W v h=>CL g W ts a false ns lg v (.slice A2 ns.length c2) [40] h);rw[show str [40]= .string ⟨#[40]⟩ from rfl]at oL;simp only[Bool.not_false,Bool.true_and]at oL;clear HP rU ev vp jE o9 h1;go_wp2_with fail;refine gG.out.mono ?_
    rintro e w3 ⟨rfl,ab⟩;have aC:=hid (aI.out.trans ab);have bg:=gA.out.keep ab;have eI:=hid bg;have j0:=(a6.out.ext ab).three';clear ab bg k0 k1 k2 k3 k4 f1 f2 f3 f4;obtain⟨u1,dS⟩:∃u,isS ts a [40]=u:=⟨_,rfl⟩;rw[dS]at oL;cases u1
    ·have HD:=hid (mR.out.trans (OH dS));clear dS HS;go_wp2_with fail;refine(oL.out _ _ eI.out).mono ?_
     rintro e w4 ⟨rfl,pa⟩;have ex:=eI.out.keep pa.ext;have dC:=hid ex;have bw:=hid (aC.out.trans pa.ext);obtain⟨⟨k0,k1,k2,k3,k4⟩,⟨f1,f2,f3,f4⟩,o8⟩:=ex.blk.five';clear pa ex;go_wp2_with fail
     (try simp only[Exit.inBlock,Exit.then])
     first
      |refine bodyPost_ret (results_none rfl _ _ _) rfl ?_
      |refine bodyPost_end (results_none rfl _ _ _) rfl ?_
     have h5:=dC.out.fail;exact Aw.mkN HD.out ((KR.of_ext bw.out).trans h5.2) h5.1
    ·have mO:=hid dS;clear dS;go_wp2_with fail;refine(oL.out _ _ eI.out).mono ?_
     rintro e w4 ⟨rfl,pa⟩;have ex:=eI.out.keep pa.ext;have dC:=hid ex;have bw:=hid (aC.out.trans pa.ext);obtain⟨⟨k0,k1,k2,k3,k4⟩,⟨f1,f2,f3,f4⟩,o8⟩:=ex.blk.five';clear pa ex;go_upto_region 25 with fail;have hst:=dC.out.stepR hlt2;obtain⟨w5,eE⟩:∃w5,w5=w4.setCell ⟨g,1,none⟩ (.int .i64 ((a:Int)+1)):=⟨_,rfl⟩;rw[<-eE]at hst ⊢;have fc:=hid ((KR.of_ext bw.out).trans hst.2);have kG:=hid (HS.out (a+1) (by omega) w5 ns lg _ hst.1);clear hst eE k0 k1 k2 k3 k4 f1 f2 f3 f4;go_wp2_with fail;refine kG.out.mono ?_
     intro e w6 aw;obtain⟨r,hr⟩:∃r,Bh ts f (a+1)=r:=⟨_,rfl⟩;obtain⟨_|x,b2⟩:=r
     ·obtain⟨rfl,bL,kt,kv,bf,hk⟩:=aw.none_ hr;have HD:=hid (mR.out.trans (KD mO.out hr));have jA:=hid (Dn g w6 ts b2 true kt kv _ bL [41] bf);rw[show str [41]= .string ⟨#[41]⟩ from rfl]at jA;simp only[Bool.not_true,Bool.false_and,Bool.false_eq_true,if_false,Bool.not_false]at jA;have iQ:=hid (fc.out.trans hk);clear aw hr bf hk;go_wp2_with fail;refine jA.out.mono ?_
      rintro e w7 ⟨rfl,qm,mJ⟩;have HE:=hid (And.intro (iQ.out.trans qm) mJ);clear qm mJ;go_wp2_with fail
      (try simp only[Exit.inBlock,Exit.then])
      first
       |refine bodyPost_ret (results_none rfl _ _ _) rfl ?_
       |refine bodyPost_end (results_none rfl _ _ _) rfl ?_
      exact Aw.mkN HD.out HE.out.1 HE.out.2
     ·obtain⟨rfl,bL,bf,hk⟩:=aw.some_ hr;have jJ:=hid hr;have jA:=hid (Dn g w6 ts b2 false _ _ _ bL [41] bf);rw[show str [41]= .string ⟨#[41]⟩ from rfl]at jA;simp only[Bool.not_false,Bool.true_and]at jA;have iQ:=hid (fc.out.trans hk);clear aw hr bf hk;obtain⟨u2,dF⟩:∃u,isS ts b2 [41]=u:=⟨_,rfl⟩;rw[dF]at jA;cases u2
      ·have HD:=hid (mR.out.trans (MA mO.out jJ.out dF));simp only[Bool.false_eq_true,if_false,Bool.not_false]at jA;clear dF;go_wp2_with fail;refine jA.out.mono ?_
       rintro e w7 ⟨rfl,qm,mJ⟩;have HE:=hid (And.intro (iQ.out.trans qm) mJ);clear qm mJ;go_wp2_with fail
       (try simp only[Exit.inBlock,Exit.then])
       first
        |refine bodyPost_ret (results_none rfl _ _ _) rfl ?_
        |refine bodyPost_end (results_none rfl _ _ _) rfl ?_
       exact Aw.mkN HD.out HE.out.1 HE.out.2
      ·have HD:=hid (mR.out.trans (OG mO.out jJ.out dF));simp only[if_true,Bool.not_true]at jA;clear dF;go_wp2_with fail;refine jA.out.mono ?_
       rintro e w7 ⟨rfl,qm,mJ⟩;have HE:=hid (And.intro (iQ.out.trans qm) mJ);clear qm mJ;go_wp2_with fail
       (try simp only[Exit.inBlock,Exit.then])
       first
        |refine bodyPost_ret (results_none rfl _ _ _) rfl ?_
        |refine bodyPost_end (results_none rfl _ _ _) rfl ?_
       exact Aw.mkS HD.out HE.out.1 HE.out.2
   ·have hk2:tk=2:=by
     rcases ev with h|h|⟨h,_⟩
     ·exact absurd h h1
     ·exact h
     ·exact absurd h h3
    subst hk2;clear ev rU XV;by_cases jE:tx=[112,105]
    ·have hpb:(tx == [112,105])=true:=by rw[beq_iff_eq];exact jE
     have zA:(tx == [101])=false:=by rw[beq_eq_false_iff_ne,jE];decide
     have mR:Hid (R=(some (.leaf 3 []),a+1)):=hid (by rw[HP.out,if_neg (by decide),if_neg (by decide),jE];rfl);clear HP HS jE;go_upto_region 9 with fail;have hst:=gA.out.stepR hlt2;obtain⟨w3,fA⟩:∃w3,w3=w2.setCell ⟨g,1,none⟩ (.int .i64 ((a:Int)+1)):=⟨_,rfl⟩;rw[<-fA]at hst ⊢;have dW:Blk w3 gt 122 #[.int .i64 ((2:Nat):Int),.int .i64 (ta:Int),str tx]:=by
      rw[fA];exact a6.out.far (p:=⟨g,1,none⟩) (by show gt≠g;have:=lQ.out;omega) _
     have a8:=hid dW;have eI:=hid hst.1;have gE:=hid ((KR.of_ext aI.out).trans hst.2);have j0:=dW.three';clear hst fA dW k0 k1 k2 k3 k4 f1 f2 f3 f4;have bH:=hid (B7 g w3 ts (a+1) false ns lg _ _ 3 0 0 [] eI.out (by omega));rw[show str []= .string ⟨#[]⟩ from rfl]at bH;go_wp2_with fail;refine bH.out.mono ?_
     rintro e w4 ⟨nv2,rfl,ep,ex⟩;have HE:=hid (And.intro (gE.out.trans ep) ex);clear ep ex;go_wp2_with fail
     (try simp only[Exit.inBlock,Exit.then])
     first
      |refine bodyPost_ret (results_none rfl _ _ _) rfl ?_
      |refine bodyPost_end (results_none rfl _ _ _) rfl ?_
     exact Aw.mkS mR.out HE.out.1 (HE.out.2.as (by rw[Ex.big,Bool.or_false]) rfl)
    ·have hpb:(tx == [112,105])=false:=by rw[beq_eq_false_iff_ne];exact jE
     by_cases o9:tx=[101]
     ·have zA:(tx == [101])=true:=by rw[beq_iff_eq];exact o9
      have mR:Hid (R=(some (.leaf 4 []),a+1)):=hid (by rw[HP.out,if_neg (by decide),if_neg (by decide),o9];rfl);clear HP HS jE o9;go_upto_region 9 with fail;have hst:=gA.out.stepR hlt2;obtain⟨w3,fA⟩:∃w3,w3=w2.setCell ⟨g,1,none⟩ (.int .i64 ((a:Int)+1)):=⟨_,rfl⟩;rw[<-fA]at hst ⊢;have dW:Blk w3 gt 122 #[.int .i64 ((2:Nat):Int),.int .i64 (ta:Int),str tx]:=by
       rw[fA];exact a6.out.far (p:=⟨g,1,none⟩) (by show gt≠g;have:=lQ.out;omega) _
      have a8:=hid dW;have eI:=hid hst.1;have gE:=hid ((KR.of_ext aI.out).trans hst.2);have j0:=dW.three';clear hst fA dW k0 k1 k2 k3 k4 f1 f2 f3 f4;have bH:=hid (B7 g w3 ts (a+1) false ns lg _ _ 4 0 0 [] eI.out (by omega));rw[show str []= .string ⟨#[]⟩ from rfl]at bH;go_wp2_with fail;refine bH.out.mono ?_
      rintro e w4 ⟨nv2,rfl,ep,ex⟩;have HE:=hid (And.intro (gE.out.trans ep) ex);clear ep ex;go_wp2_with fail
      (try simp only[Exit.inBlock,Exit.then])
      first
       |refine bodyPost_ret (results_none rfl _ _ _) rfl ?_
       |refine bodyPost_end (results_none rfl _ _ _) rfl ?_
      exact Aw.mkS mR.out HE.out.1 (HE.out.2.as (by rw[Ex.big,Bool.or_false]) rfl)
     ·have zA:(tx == [101])=false:=by rw[beq_eq_false_iff_ne];exact o9
      have gG:=hid (fun W=>FS W tx);by_cases hf0:Bw tx=0
      ·rw[hf0]at gG;have mR:Hid (R=(some (.leaf 2 tx),a+1)):=hid (by rw[HP.out,if_neg (by decide),if_neg (by decide),if_neg (by rw[hf0];simp),if_neg jE,if_neg o9]);clear HP HS jE o9 hf0;go_wp2_with fail;refine(gG.out _).mono ?_
       rintro e w2' ⟨rfl,ab⟩;have sQ:=hid (aI.out.trans ab);have bg:=gA.out.keep ab;have td:=hid bg;have oR:=hid (a6.out.ext ab);have j0:=oR.out.three';obtain⟨⟨k0,k1,k2,k3,k4⟩,⟨f1,f2,f3,f4⟩,sb⟩:=bg.blk.five';clear ab bg aI gA a6;generalize sQ=aI at *;generalize td=gA at *;generalize oR=a6 at *;generalize w2'=w2 at *;go_upto_region 22 with fail;have hst:=gA.out.stepR hlt2;obtain⟨w3,fA⟩:∃w3,w3=w2.setCell ⟨g,1,none⟩ (.int .i64 ((a:Int)+1)):=⟨_,rfl⟩;rw[<-fA]at hst ⊢;have dW:Blk w3 gt 122 #[.int .i64 ((2:Nat):Int),.int .i64 (ta:Int),str tx]:=by
        rw[fA];exact a6.out.far (p:=⟨g,1,none⟩) (by show gt≠g;have:=lQ.out;omega) _
       have a8:=hid dW;have eI:=hid hst.1;have gE:=hid ((KR.of_ext aI.out).trans hst.2);have j0:=dW.three';clear hst fA dW k0 k1 k2 k3 k4 f1 f2 f3 f4;have bH:=hid (B7 g w3 ts (a+1) false ns lg _ _ 2 0 0 tx eI.out (by omega));go_wp2_with fail;refine bH.out.mono ?_
       rintro e w4 ⟨nv2,rfl,ep,ex⟩;have HE:=hid (And.intro (gE.out.trans ep) ex);clear ep ex;go_wp2_with fail
       (try simp only[Exit.inBlock,Exit.then])
       first
        |refine bodyPost_ret (results_none rfl _ _ _) rfl ?_
        |refine bodyPost_end (results_none rfl _ _ _) rfl ?_
       exact Aw.mkS mR.out HE.out.1 (HE.out.2.as (by rw[Ex.big,Bool.or_false]) rfl)
      ·have hfr:=Io tx hf0;have qJ:Hid (R=(match FO (Bh ts f) ts (a+1) with|(none,b)=>(none,b)|(some x,b)=>(some (.un (Bw tx) 0 x),b))):=hid (by rw[HP.out,if_neg (by decide),if_neg (by decide),if_pos hf0]);generalize hfk:Bw tx=fk at *;have hfp:(0:Int)<(fk:Int):=by omega
       have xO:=hid hfr;clear HP jE o9 hf0 hfk;go_wp2_with fail;refine(gG.out _).mono ?_
       rintro e w2' ⟨rfl,ab⟩;have sQ:=hid (aI.out.trans ab);have bg:=gA.out.keep ab;have td:=hid bg;have oR:=hid (a6.out.ext ab);have j0:=oR.out.three';obtain⟨⟨k0,k1,k2,k3,k4⟩,⟨f1,f2,f3,f4⟩,sb⟩:=bg.blk.five';clear ab bg aI gA a6;generalize sQ=aI at *;generalize td=gA at *;generalize oR=a6 at *;generalize w2'=w2 at *;go_upto_region 15 with fail;have hst:=gA.out.stepR hlt2;obtain⟨w3,fA⟩:∃w3,w3=w2.setCell ⟨g,1,none⟩ (.int .i64 ((a:Int)+1)):=⟨_,rfl⟩;rw[<-fA]at hst ⊢;have dW:Blk w3 gt 122 #[.int .i64 ((2:Nat):Int),.int .i64 (ta:Int),str tx]:=by
        rw[fA];exact a6.out.far (p:=⟨g,1,none⟩) (by show gt≠g;have:=lQ.out;omega) _
       have a8:=hid dW;have eI:=hid hst.1;have gE:=hid ((KR.of_ext aI.out).trans hst.2);have j0:=dW.three';clear hst fA dW k0 k1 k2 k3 k4 f1 f2 f3 f4;have rX:gt≠g:=by have:=lQ.out;omega
       have jA:=hid (Dn g w3 ts (a+1) false ns lg _ _ [40] eI.out);rw[show str [40]= .string ⟨#[40]⟩ from rfl]at jA;simp only[Bool.not_false,Bool.true_and]at jA;obtain⟨u1,dS⟩:∃u,isS ts (a+1) [40]=u:=⟨_,rfl⟩;rw[dS]at jA;cases u1
       ·have HD:Hid (R=(none,a+1)):=hid (by rw[qJ.out,OH dS]);simp only[Bool.false_eq_true,if_false,Bool.not_false]at jA;clear dS HS qJ;go_wp2_with fail;refine jA.out.mono ?_
        rintro e w4 ⟨rfl,ep,ex⟩;have HE:=hid (And.intro (gE.out.trans ep) ex);clear ep ex;go_wp2_with fail;refine(Q8 g ts _ _ _ _ _ _ HE.out.2).mono ?_
        rintro e w5 ⟨rfl,qn,cT⟩;have eJ:=hid (And.intro (HE.out.1.trans qn) cT);have fe:=hid (Dn g w5 ts _ true _ _ _ _ [41] cT);rw[show str [41]= .string ⟨#[41]⟩ from rfl]at fe;simp only[Bool.not_true,Bool.false_and,Bool.false_eq_true,if_false,Bool.not_false]at fe;clear qn cT;go_wp2_with fail;refine fe.out.mono ?_
        rintro e w6 ⟨rfl,lD,iA⟩;have jd:=hid (And.intro (eJ.out.1.trans lD) iA);obtain⟨⟨k0,k1,k2,k3,k4⟩,_,iU⟩:=iA.blk.five';clear lD iA;go_wp2_with fail
        (try simp only[Exit.inBlock,Exit.then])
        first
         |refine bodyPost_ret (results_none rfl _ _ _) rfl ?_
         |refine bodyPost_end (results_none rfl _ _ _) rfl ?_
        exact Aw.mkN HD.out jd.out.1 jd.out.2
       ·simp only[if_true,Bool.not_true]at jA;have mO:=hid dS;clear dS;go_wp2_with fail;refine jA.out.mono ?_
        rintro e w4 ⟨rfl,ep,ex⟩;have i9:=hid (gE.out.trans ep);have Ys:=hid (ep.kept1 a8.out rX wm.out);have kG:=hid (HS.out (a+1+1) (by omega) w4 ns lg _ ex);have et:=DQ ts f (a+1+1) ex.le;clear ep ex HS;go_wp2_with fail;refine kG.out.mono ?_
        intro e w5 aw;obtain⟨r,hr⟩:∃r,Bh ts f (a+1+1)=r:=⟨_,rfl⟩;rw[hr]at et;obtain⟨_|x,b2⟩:=r
        ·obtain⟨rfl,bL,kt,kv,bf,hk⟩:=aw.none_ hr;have HD:Hid (R=(none,b2)):=hid (by rw[qJ.out,KD mO.out hr]);have fe:=hid (Dn g w5 ts b2 true kt kv _ bL [41] bf);rw[show str [41]= .string ⟨#[41]⟩ from rfl]at fe;simp only[Bool.not_true,Bool.false_and,Bool.false_eq_true,if_false,Bool.not_false]at fe;have fc:=hid (i9.out.trans hk);clear aw hr bf hk et qJ;go_wp2_with fail;refine fe.out.mono ?_
         rintro e w6 ⟨rfl,lD,iA⟩;have jd:=hid (And.intro (fc.out.trans lD) iA);obtain⟨⟨k0,k1,k2,k3,k4⟩,_,iU⟩:=iA.blk.five';clear lD iA;go_wp2_with fail
         (try simp only[Exit.inBlock,Exit.then])
         first
          |refine bodyPost_ret (results_none rfl _ _ _) rfl ?_
          |refine bodyPost_end (results_none rfl _ _ _) rfl ?_
         exact Aw.mkN HD.out jd.out.1 jd.out.2
        ·obtain⟨rfl,bL,bf,hk⟩:=aw.some_ hr;have jJ:=hid hr;have vj:=et.2.2 x rfl;simp only at vj;have fe:=hid (Dn g w5 ts b2 false _ _ _ bL [41] bf);rw[show str [41]= .string ⟨#[41]⟩ from rfl]at fe;simp only[Bool.not_false,Bool.true_and]at fe;have fc:=hid (i9.out.trans hk);have Yr:=hid (hk.kept1 Ys.out.1 rX Ys.out.2);have hfw:=bf.few;clear aw hr bf hk et;obtain⟨u2,dF⟩:∃u,isS ts b2 [41]=u:=⟨_,rfl⟩;rw[dF]at fe;cases u2
         ·have HD:Hid (R=(none,b2)):=hid (by rw[qJ.out,MA mO.out jJ.out dF]);simp only[Bool.false_eq_true,if_false,Bool.not_false]at fe;clear dF qJ;go_wp2_with fail;refine fe.out.mono ?_
          rintro e w6 ⟨rfl,lD,iA⟩;have jd:=hid (And.intro (fc.out.trans lD) iA);obtain⟨⟨k0,k1,k2,k3,k4⟩,_,iU⟩:=iA.blk.five';clear lD iA;go_wp2_with fail
          (try simp only[Exit.inBlock,Exit.then])
          first
           |refine bodyPost_ret (results_none rfl _ _ _) rfl ?_
           |refine bodyPost_end (results_none rfl _ _ _) rfl ?_
          exact Aw.mkN HD.out jd.out.1 jd.out.2
         ·have HD:Hid (R=(some (.un fk 0 x),b2+1)):=hid (by rw[qJ.out,OG mO.out jJ.out dF]);simp only[if_true,Bool.not_true]at fe;clear dF qJ;go_wp2_with fail;refine fe.out.mono ?_
          rintro e w6 ⟨rfl,lD,iA⟩;have iQ:=hid (fc.out.trans lD);have HQ6:=hid (lD.kept1 Yr.out.1 rX Yr.out.2);have xI:=hid iA;obtain⟨⟨k0,k1,k2,k3,k4⟩,_,iU⟩:=iA.blk.five';have j0:=HQ6.out.1.three';clear lD iA;go_wp2_with fail;refine(gG.out _).mono ?_
          rintro e w7 ⟨rfl,bx⟩;have my:=hid (iQ.out.trans (KR.of_ext bx));have bH:=hid (B7 g w7 ts (b2+1) false _ _ _ bL (fk:Int) 0 0 [] (xI.out.keep bx) (by omega));rw[show str []= .string ⟨#[]⟩ from rfl]at bH;clear bx;go_wp2_with fail;refine bH.out.mono ?_
          rintro e w8 ⟨nv2,rfl,eM,cJ⟩;have aS:Ay (fk:Int)=1:=by unfold Ay;have:=xO.out;rw[if_neg (by omega),if_neg (by omega),if_neg (by omega)]
          have fB:Ep (fk:Int) 0 0 (ns++Ak ns.length x).length []=⟨(fk:Int),(((ns++Ak ns.length x).length:Nat):Int)-1,0,0,[]⟩:=by unfold Ep;rw[if_pos aS]
          rw[fB]at cJ;have rg:=x.size_pos;have h10:(fk == 10)=false:=by
           rw[beq_eq_false_iff_ne];have:=xO.out;omega
          have hbg:(lg || x.big)=(lg || (Ex.un fk 0 x).big):=by rw[Ex.big,h10,Bool.false_and,Bool.false_or]
          have HF:Hid (RdR g w8 ts (b2+1) false (ns++Ak ns.length (.un fk 0 x)) (lg || (Ex.un fk 0 x).big) _ nv2):=hid (cJ.as hbg (by
           rw[BZ,<-List.append_assoc,Bv,show ((ns.length+x.size-1:Nat):Int)=((ns.length+x.size:Nat):Int)-1 by omega]))
          have mw:=hid (my.out.trans eM);clear eM cJ aS fB h10 hbg;go_wp2_with fail
          (try simp only[Exit.inBlock,Exit.then])
          first
           |refine bodyPost_ret (results_none rfl _ _ _) rfl ?_
           |refine bodyPost_end (results_none rfl _ _ _) rfl ?_
          exact Aw.mkS HD.out mw.out HF.out
 ·have HI:Hid (CS (Bh ts f) ts a=(none,a)):=hid (by
   unfold CS;rw[List.getElem?_eq_none (by rw[<-li.out];exact fE)])
  have z1:decide (n<=a)=true:=decide_eq_true fE;have z2:(n:Int)<=(a:Int):=by omega
  clear aa;go_enter Tryz.func240,Tryz.ntmps240;go_wp2_with fail;go_quiet (fail);go_wp2_with fail
  (try simp only[Exit.inBlock,Exit.then])
  refine bodyPost_ret (results_none rfl _ _ _) rfl ?_
  have h3:=(H.out.keep ((Ext.refl w).drewN nq)).fail;exact Aw.mkN HI.out ((KR.of_ext ((Ext.refl w).drewN nq)).trans h3.2) h3.1
theorem OS{z:Int}{n:Nat}{x:Ex}(h:z=(n:Int)\/z= -(n:Int)):(Ex.un 10 z x).big=(decide (64<n) || x.big):=by
 rw[Ex.big];have:(!(decide (-64<=z/\z<=64)))=decide (64<n):=by
  rw[<-decide_not,decide_eq_decide];omega
 rw[this];rfl
theorem Ey{z:Int}{len:Nat}:Ep 10 0 z len []=⟨10,(len:Int)-1,0,z,[]⟩:=by
 unfold Ep;rw[if_pos (by decide)]
theorem Jn{c:Nat}(h:Cq c=true):(48<=c/\c<=57)\/c=46:=by
 unfold Cq Df at h;simp only[Bool.or_eq_true,Bool.and_eq_true,decide_eq_true_eq,beq_iff_eq]at h;exact h
theorem I7(g:Nat)(ts:List Tok)(tv:Value)(f a:Nat)(jp:∀t∈ts,Cz t)(hs:∀a',a<a'->SI g ts tv f a')(w:World)(ns:List Nd)(lg:Bool)(nv:Value)(h:RdR g w ts a false ns lg tv nv):
  Calls Tryz.prog 206 #[.pointer (some ⟨g,0,none⟩)] w (Aw g ts tv ns nv lg (AX (Bh ts f) ts a) w):=by
 have fP:=hid (PH g ts tv f a jp hs w ns lg nv h);have hga:=Jl (DQ ts f) a h.le;have ft:=h.max;have fz:=hid jp;clear h hs jp;have tA:=hid (fun W a bad ns lg nv h=>CL g W ts a bad ns lg tv nv [94] h);have wJ:=hid (fun W a bad ns lg nv h=>CL g W ts a bad ns lg tv nv [45] h);rw[show str [94]= .string ⟨#[94]⟩ from rfl]at tA;rw[show str [45]= .string ⟨#[45]⟩ from rfl]at wJ;go_enter Tryz.func206,Tryz.ntmps206;go_wp2_with fail;refine fP.out.mono ?_
 intro e w1 aw;obtain⟨r,hr⟩:∃r,CS (Bh ts f) ts a=r:=⟨_,rfl⟩;rw[hr]at hga;obtain⟨_|x,b⟩:=r
 ·obtain⟨rfl,bL,kt,kv,bf,hk⟩:=aw.none_ hr;have HD:=hid (Mb hr);have HE:=hid (And.intro hk bf);have tw:=hid (tA.out w1 b true kt kv bL bf);simp only[Bool.not_true,Bool.false_and]at tw;clear aw hr bf hk hga;go_wp2_with fail;refine tw.out.mono ?_
  rintro e w2 ⟨rfl,hd⟩;have eJ:=hid (And.intro (HE.out.1.trans (KR.of_ext hd.ext)) (HE.out.2.keep hd.ext));clear hd;go_wp2_with fail
  (try simp only[Exit.inBlock,Exit.then])
  first
   |refine bodyPost_ret (results_none rfl _ _ _) rfl ?_
   |refine bodyPost_end (results_none rfl _ _ _) rfl ?_
  exact Aw.mkN HD.out eJ.out.1 eJ.out.2
 ·obtain⟨rfl,bL,bf,hk⟩:=aw.some_ hr;have vj:=hga.2.2 x rfl;have ed:=hga.2.1;simp only at vj ed;have HR:=hid hr;have HE:=hid (And.intro hk bf);have tw:=hid (tA.out w1 b false _ _ bL bf);simp only[Bool.not_false,Bool.true_and]at tw;clear aw hr bf hk hga;obtain⟨u1,dS⟩:∃u,isS ts b [94]=u:=⟨_,rfl⟩;rw[dS]at tw;cases u1
  ·have HD:=hid (Ld HR.out dS);clear dS;go_wp2_with fail;refine tw.out.mono ?_
   rintro e w2 ⟨rfl,hd⟩;have eJ:=hid (And.intro (HE.out.1.trans (KR.of_ext hd.ext)) (HE.out.2.keep hd.ext));clear hd;go_wp2_with fail
   (try simp only[Exit.inBlock,Exit.then])
   first
    |refine bodyPost_ret (results_none rfl _ _ _) rfl ?_
    |refine bodyPost_end (results_none rfl _ _ _) rfl ?_
   exact Aw.mkS HD.out eJ.out.1 eJ.out.2
  ·have jj:=Cl dS;have mO:=hid dS;have uw:IntKind.i64.wrap ((b:Int)+1)=(b:Int)+1:=IntWalk.i64_in _ (by omega);clear dS;go_wp2_with fail;refine tw.out.mono ?_
   rintro e w2 ⟨rfl,hd⟩;have hr2:=HE.out.2.keep hd.ext;have gA:=hid hr2;have lO:=hid (HE.out.1.trans (KR.of_ext hd.ext));obtain⟨⟨k0,k1,k2,k3,k4⟩,⟨f1,f2,f3,f4⟩,sb⟩:=hr2.blk.five';clear hd hr2;go_upto_region 4 with fail;have hst:=gA.out.stepR jj;obtain⟨w3,fA⟩:∃w3,w3=w2.setCell ⟨g,1,none⟩ (.int .i64 ((b:Int)+1)):=⟨_,rfl⟩;rw[<-fA]at hst ⊢;have gE:=hid (lO.out.trans hst.2);have eI:=hid hst.1;have lP:=hid (wJ.out w3 (b+1) false _ _ bL hst.1);simp only[Bool.not_false,Bool.true_and]at lP;clear hst fA k0 k1 k2 k3 k4 f1 f2 f3 f4;obtain⟨u2,dF⟩:∃u,isS ts (b+1) [45]=u:=⟨_,rfl⟩;rw[dF]at lP;cases u2
   ·have vZ:=hid dF;clear dF;go_wp2_with fail;refine lP.out.mono ?_
    rintro e w5 ⟨rfl,hd⟩;have cX:=hid (eI.out.keep hd.ext);have fc:=hid (gE.out.trans (KR.of_ext hd.ext));clear hd;obtain⟨c1,hc1⟩:∃c1,c1=b+1:=⟨_,rfl⟩;rw[<-hc1]at cX;have lS:=hid hc1;have aD:Hid (EC ts c1=none->AX (Bh ts f) ts a=(none,c1)):=hid (fun h=>by rw[hc1]at h ⊢;exact J2 HR.out mO.out vZ.out h);obtain⟨A,c0,rfl,aa⟩:=cX.out.tok;have rM:=cX.out.le;have nP:=cX.out.few;obtain⟨⟨k0,k1,k2,k3,k4⟩,⟨f1,f2,f3,f4⟩,vm⟩:=cX.out.blk.five';obtain⟨n,eK⟩:∃n,n=ts.length:=⟨_,rfl⟩;rw[<-eK]at k0 rM ft;have li:=hid eK;have cO:=aa;clear eK hc1 aa;generalize hlx:(lg || x.big)=lgx at *;have Wi:=hid hlx;clear hlx;rcases Nat.lt_or_ge c1 n with hlt|fE
    ·have hlt2:c1<ts.length:=by rw[<-li.out];exact hlt
     obtain⟨bt,zK,hbg,lH,hc⟩:=cO (by omega);subst zK;obtain⟨q0,q1,q2⟩:=hc c1 hlt2;have hI:EC ts c1=if ts[c1].kind=1 then CW ts[c1].text else none:=by
      unfold EC;rw[List.getElem?_eq_getElem hlt2]
     have ev:ts[c1].kind=1->Aq Cq ts[c1].text=ts[c1].text.length:=fun h1=>by
      rcases fz.out ts[c1] (List.getElem_mem hlt2) with ⟨_,_,h,_⟩|⟨h,_⟩|⟨h,_⟩
      ·exact h
      ·omega
      ·omega
     have gG:=hid ev;clear hc ev cO;generalize ts[c1].kind=tk at *;generalize ts[c1].text=tx at *;have z1:decide (n<=c1)=false:=decide_eq_false (by omega);by_cases hk:tk=1
     ·subst hk;rw[if_pos rfl]at hI;by_cases hl2:tx.length<=2
      ·have z2:decide (2<tx.length)=false:=decide_eq_false (by omega);have z3:¬(2:Int)<(tx.length:Int):=by omega
       have fp:=gG.out rfl;have tc:=hid fp;obtain⟨cf,zI⟩:∃cf:World->Nat,∀W:World,(convert 9 221 (str tx)).run Tryz.prog W= .ok (.slice (some ⟨W.heap.size,0,none⟩) tx.length (cf W)) (B3 W tx):=
        ⟨fun W=>Classical.choose (Dt W tx),fun W=>(Classical.choose_spec (Dt W tx)).1⟩
       clear fp;go_wp2_with fail;go_quiet (fail);obtain⟨w6,jg⟩:∃w6,w6=w5.drewN nq:=⟨_,rfl⟩;rw[<-jg];have hd:Dr w5 w6:=by rw[jg];exact(Dr.refl w5).drewN _
       rw[<-hd.cell]at k0 k1 k2 k3 k4 q0 q1 q2;have dB:=hid ((hd.ext.trans (Ext.refl w6).drew).trans (Fu w6.drew tx));have HI:=hid hI;have mC:Hid (∀j,j<tx.length->(B3 w6.drew tx).cell? ⟨w6.heap.size,j,none⟩=some (.int .u8 (Af tx j:Int))):=hid (fun j hj=>EY w6.drew tx j hj);clear jg hd hI;go_upto_region 10 with fail;go_region;clear zI k0 k1 k2 k3 k4 f1 f2 f3 f4 q0 q1 q2 z1 z2 z3;generalize B3 w6.drew tx=wb at *;generalize w6.heap.size=gb at *;generalize cf w6.drew=cb at *;have rt:=cX.out.keep dB.out;have ow:=hid rt;have wF:=hid (fc.out.trans (KR.of_ext dB.out));obtain⟨⟨k0,k1,k2,k3,k4⟩,⟨f1,f2,f3,f4⟩,dy⟩:=rt.blk.five';clear rt;go_wp2_with fail
       go_loop [3,82] (fun s3 qT=>∃i:Nat,i<=tx.length/\s3= .int .i64 (D5 (tx.take i):Int)/\qT= .int .i64 (i:Int)/\Hid ((tx.take i).all (fun c=>Df c.toNat)=true)) (fun _ qT=>tx.length-(intOf qT).toNat)
       case atStart=>exact⟨0,Nat.zero_le _,rfl,rfl,hid rfl⟩
       case round=>
        obtain⟨i,hi,rfl,rfl,fQ⟩:=hrel;by_cases hit:i<tx.length
        ·have hst:=mC.out i hit;have kV:=OO i fQ.out hl2;have bG:=hid (KK tx i hit);have ij:=Bz tx i hit;have uc:=hid (List.take_succ_eq_append_getElem hit);have nW:=CJ tx i;have eb:=(Hf Cq tx i (by rw[tc.out];exact hit)).2;rw[<-ij]at eb;have js:=Jn eb;have gH:=hid ij;obtain⟨c,hc⟩:∃c,c=Af tx i:=⟨_,rfl⟩;rw[<-hc]at hst nW js;have tH:=hid hc;clear ij hc eb;generalize hdv:D5 (tx.take i)=dv at *;have pf:=hid hdv;clear hdv;rcases js with mN|rfl
         ·have y1:((c:Int) == 46)=false:=by rw[beq_eq_false_iff_ne];omega
          have y2:(c == 46)=false:=by rw[beq_eq_false_iff_ne];omega
          have wZ:IntKind.i64.wrap (10*(dv:Int))=((10*dv:Nat):Int):=by rw[IntWalk.i64_in _ (by omega)];omega
          have hwc:IntKind.u8.wrap ((c:Int)-48)=((c-48:Nat):Int):=by
           have:IntKind.u8.wrap ((c:Int)-48)=((c:Int)-48) % 256:=rfl;rw[this];omega
          have yt:IntKind.i64.wrap (((c-48:Nat):Int))=((c-48:Nat):Int):=IntWalk.i64_in _ (by omega);obtain⟨p1,fH⟩:∃p1,p1=10*dv:=⟨_,rfl⟩;obtain⟨p2,fr⟩:∃p2,p2=c-48:=⟨_,rfl⟩;rw[<-fH]at wZ;rw[<-fr]at hwc yt;have pp:IntKind.i64.wrap ((p1:Int)+(p2:Int))=((p1+p2:Nat):Int):=by rw[IntWalk.i64_in _ (by omega)];omega
          obtain⟨p3,l8⟩:∃p3,p3=p1+p2:=⟨_,rfl⟩;rw[<-l8]at pp;have HV:Hid (D5 (tx.take (i+1))=p3):=hid (by rw[bG.out,<-gH.out,<-tH.out,l8,fH,fr]);have pX:Hid ((tx.take (i+1)).all (fun c=>Df c.toNat)=true):=hid (by
           rw[uc.out,List.all_append,fQ.out,List.all_cons,List.all_nil,<-gH.out,<-tH.out];unfold Df;simp[mN.1,mN.2])
          clear fH fr l8 mN;go_wp2_with fail
          go_round
          case rel=>exact⟨i+1,by omega,by rw[HV.out],by go_num,pX⟩
          case measure=>simp[intOf];omega
         ·have i7:Hid (AX (Bh ts f) ts a=(none,c1)):=hid (aD.out (by
           rw[HI.out];unfold CW;rw[if_neg];intro hh;have h2:=List.all_eq_true.1 hh.2 tx[i] (List.getElem_mem hit);rw[<-gH.out,<-tH.out]at h2
           revert h2
           decide))
          go_wp2_with fail
          (try simp only[Exit.inBlock,Exit.then])
          first
           |refine bodyPost_ret (results_none rfl _ _ _) rfl ?_
           |refine bodyPost_end (results_none rfl _ _ _) rfl ?_
          have h3:=ow.out.fail;exact Aw.mkN i7.out (wF.out.trans h3.2) h3.1
        ·obtain rfl:i=tx.length:=by omega
         have kD:=fQ.out;rw[List.take_of_length_le (Nat.le_refl _)]at kD;rw[List.take_of_length_le (Nat.le_refl _)];have jr:EC ts c1=some (D5 tx):=by
          rw[HI.out];unfold CW D5;rw[if_pos ⟨hl2,kD⟩]
         have yU:=IP jr;obtain⟨z,hz⟩:∃z:Int,z=(D5 tx:Int):=⟨_,rfl⟩;have iw:Hid (AX (Bh ts f) ts a=(some (.un 10 z x),c1+1)):=hid (by
          rw[hz,lS.out];rw[lS.out]at jr;exact NI HR.out mO.out vZ.out jr)
         have VB:Hid (z=(D5 tx:Int)\/z= -(D5 tx:Int)):=hid (by omega);generalize D5 tx=dv at *;have Zx:IntKind.i64.wrap ((dv:Int))=z:=by rw[IntWalk.i64_in _ (by omega),hz]
         have aZ:IntKind.i64.wrap ((c1:Int)+1)=(c1:Int)+1:=IntWalk.i64_in _ (by omega);clear kD hz jr;go_upto_region 18 with fail;have hst:=ow.out.stepR hlt2;obtain⟨w7,fm⟩:∃w7,w7=wb.setCell ⟨g,1,none⟩ (.int .i64 ((c1:Int)+1)):=⟨_,rfl⟩;rw[<-fm]at hst ⊢;have my:=hid (wF.out.trans hst.2);have wj:=hid hst.1;obtain⟨⟨k0,k1,k2,k3,k4⟩,⟨f1,f2,f3,f4⟩,jG⟩:=hst.1.blk.five';clear hst fm;have kI:Hid (∀q,q=(lgx || decide (64<dv))->q=(lg || (Ex.un 10 z x).big)):=hid (fun q hq=>by
          rw[hq,OS VB.out,<-Wi.out];cases lg<;>cases x.big<;>simp)
         have ml:∀q:Bool,q=(lgx || decide (64<dv))->Hid (∃w8,w8=w7.setCell ⟨g,4,none⟩ (.bool q)/\RdR g w8 ts (c1+1) false (ns++Ak ns.length x) q _ bL/\KR g nv bL w w8):=fun q _=>hid (by
          have h:=wj.out.large q;exact⟨_,rfl,h.1,my.out.trans h.2⟩)
         have kU:(ns++Ak ns.length x).length+1<=c1+1:=by omega
         cases lgx
         ·by_cases hq:64<dv
          ·have rx:decide (64<dv)=true:=decide_eq_true hq;have yO:(64:Int)<(dv:Int):=by omega
           have gZ:true=(false || decide (64<dv)):=by rw[rx];rfl
           obtain⟨w8,eD,cJ,eM⟩:=(ml true gZ).out;have HQ:=hid (kI.out true gZ);clear gZ;go_upto_region 19 with fail;rw[<-eD];have bH:=hid (B7 g w8 ts (c1+1) false _ true _ bL 10 0 z [] cJ kU);rw[show str []= .string ⟨#[]⟩ from rfl,Ey]at bH;have mw:=hid eM;clear eD cJ eM ml k0 k1 k2 k3 k4 f1 f2 f3 f4;go_wp2_with fail;refine bH.out.mono ?_
           rintro e w9 ⟨nv2,rfl,jl,gL⟩;have rg:=x.size_pos;have HF:Hid (RdR g w9 ts (c1+1) false (ns++Ak ns.length (.un 10 z x)) (lg || (Ex.un 10 z x).big) _ nv2):=hid (gL.as HQ.out (by
            rw[BZ,<-List.append_assoc,Bv,show ((ns.length+x.size-1:Nat):Int)=((ns.length+x.size:Nat):Int)-1 by omega];rfl))
           have oJ:=hid (mw.out.trans jl);clear jl gL;go_wp2_with fail
           (try simp only[Exit.inBlock,Exit.then])
           first
            |refine bodyPost_ret (results_none rfl _ _ _) rfl ?_
            |refine bodyPost_end (results_none rfl _ _ _) rfl ?_
           exact Aw.mkS iw.out oJ.out HF.out
          ·have rx:decide (64<dv)=false:=decide_eq_false hq;have yO:¬(64:Int)<(dv:Int):=by omega
           have gZ:false=(false || decide (64<dv)):=by rw[rx];rfl
           obtain⟨w8,eD,cJ,eM⟩:=(ml false gZ).out;have HQ:=hid (kI.out false gZ);clear gZ;go_upto_region 19 with fail;rw[<-eD];have bH:=hid (B7 g w8 ts (c1+1) false _ false _ bL 10 0 z [] cJ kU);rw[show str []= .string ⟨#[]⟩ from rfl,Ey]at bH;have mw:=hid eM;clear eD cJ eM ml k0 k1 k2 k3 k4 f1 f2 f3 f4;go_wp2_with fail;refine bH.out.mono ?_
           rintro e w9 ⟨nv2,rfl,jl,gL⟩;have rg:=x.size_pos;have HF:Hid (RdR g w9 ts (c1+1) false (ns++Ak ns.length (.un 10 z x)) (lg || (Ex.un 10 z x).big) _ nv2):=hid (gL.as HQ.out (by
            rw[BZ,<-List.append_assoc,Bv,show ((ns.length+x.size-1:Nat):Int)=((ns.length+x.size:Nat):Int)-1 by omega];rfl))
           have oJ:=hid (mw.out.trans jl);clear jl gL;go_wp2_with fail
           (try simp only[Exit.inBlock,Exit.then])
           first
            |refine bodyPost_ret (results_none rfl _ _ _) rfl ?_
            |refine bodyPost_end (results_none rfl _ _ _) rfl ?_
           exact Aw.mkS iw.out oJ.out HF.out
         ·have gZ:true=(true || decide (64<dv)):=rfl;obtain⟨w8,eD,cJ,eM⟩:=(ml true gZ).out;have HQ:=hid (kI.out true gZ);clear gZ;go_upto_region 19 with fail;rw[<-eD];have bH:=hid (B7 g w8 ts (c1+1) false _ true _ bL 10 0 z [] cJ kU);rw[show str []= .string ⟨#[]⟩ from rfl,Ey]at bH;have mw:=hid eM;clear eD cJ eM ml k0 k1 k2 k3 k4 f1 f2 f3 f4;go_wp2_with fail;refine bH.out.mono ?_
          rintro e w9 ⟨nv2,rfl,jl,gL⟩;have rg:=x.size_pos;have HF:Hid (RdR g w9 ts (c1+1) false (ns++Ak ns.length (.un 10 z x)) (lg || (Ex.un 10 z x).big) _ nv2):=hid (gL.as HQ.out (by
           rw[BZ,<-List.append_assoc,Bv,show ((ns.length+x.size-1:Nat):Int)=((ns.length+x.size:Nat):Int)-1 by omega];rfl))
          have oJ:=hid (mw.out.trans jl);clear jl gL;go_wp2_with fail
          (try simp only[Exit.inBlock,Exit.then])
          first
           |refine bodyPost_ret (results_none rfl _ _ _) rfl ?_
           |refine bodyPost_end (results_none rfl _ _ _) rfl ?_
          exact Aw.mkS iw.out oJ.out HF.out
      ·have i7:Hid (AX (Bh ts f) ts a=(none,c1)):=hid (aD.out (by rw[hI];unfold CW;rw[if_neg (fun h=>hl2 h.1)]));have z2:decide (2<tx.length)=true:=decide_eq_true (by omega);have z3:(2:Int)<(tx.length:Int):=by omega
       clear hI hl2;go_wp2_with fail;go_quiet (fail);go_wp2_with fail
       (try simp only[Exit.inBlock,Exit.then])
       first
        |refine bodyPost_ret (results_none rfl _ _ _) rfl ?_
        |refine bodyPost_end (results_none rfl _ _ _) rfl ?_
       have h3:=(cX.out.keep ((Ext.refl w5).drewN nq)).fail;exact Aw.mkN i7.out (fc.out.trans ((KR.of_ext ((Ext.refl w5).drewN nq)).trans h3.2)) h3.1
     ·have hk2:((tk:Int) != 1)=true:=by rw[bne_iff_ne];omega
      have i7:Hid (AX (Bh ts f) ts a=(none,c1)):=hid (aD.out (by rw[hI,if_neg hk]));clear hI hk;go_wp2_with fail;go_quiet (fail);go_wp2_with fail
      (try simp only[Exit.inBlock,Exit.then])
      first
       |refine bodyPost_ret (results_none rfl _ _ _) rfl ?_
       |refine bodyPost_end (results_none rfl _ _ _) rfl ?_
      have h3:=(cX.out.keep ((Ext.refl w5).drewN nq)).fail;exact Aw.mkN i7.out (fc.out.trans ((KR.of_ext ((Ext.refl w5).drewN nq)).trans h3.2)) h3.1
    ·have i7:Hid (AX (Bh ts f) ts a=(none,c1)):=hid (aD.out (by
      unfold EC;rw[List.getElem?_eq_none (by rw[<-li.out];exact fE)]))
     have z1:decide (n<=c1)=true:=decide_eq_true fE;have z2:(n:Int)<=(c1:Int):=by omega
     clear cO;go_wp2_with fail;go_quiet (fail);go_wp2_with fail
     (try simp only[Exit.inBlock,Exit.then])
     first
      |refine bodyPost_ret (results_none rfl _ _ _) rfl ?_
      |refine bodyPost_end (results_none rfl _ _ _) rfl ?_
     have h3:=(cX.out.keep ((Ext.refl w5).drewN nq)).fail;exact Aw.mkN i7.out (fc.out.trans ((KR.of_ext ((Ext.refl w5).drewN nq)).trans h3.2)) h3.1
   ·have rP:=Cl dF;have vZ:=hid dF;have uv:IntKind.i64.wrap (((b+1:Nat):Int)+1)=((b+1:Nat):Int)+1:=IntWalk.i64_in _ (by omega);clear dF;go_wp2_with fail;refine lP.out.mono ?_
    rintro e w4 ⟨rfl,hd⟩;have ex:=eI.out.keep hd.ext;have dC:=hid ex;have i9:=hid (gE.out.trans (KR.of_ext hd.ext));obtain⟨⟨k0,k1,k2,k3,k4⟩,⟨f1,f2,f3,f4⟩,o8⟩:=ex.blk.five';clear hd ex uw;obtain⟨b1,al⟩:∃b1,b1=b+1:=⟨_,rfl⟩;rw[<-al]at k1 uv rP;have ai:=hid al;clear al;go_upto_region 7 with fail;have hst:=dC.out.stepR (by rw[<-ai.out];exact rP);rw[<-ai.out]at hst;obtain⟨w5,eE⟩:∃w5,w5=w4.setCell ⟨g,1,none⟩ (.int .i64 ((b1:Int)+1)):=⟨_,rfl⟩;rw[<-eE]at hst ⊢;rw[ai.out]at hst;have cX:=hid hst.1;have fc:=hid (i9.out.trans hst.2);clear hst eE rP uv k0 k1 k2 k3 k4 f1 f2 f3 f4;obtain⟨c1,hc1⟩:∃c1,c1=b+1+1:=⟨_,rfl⟩;rw[<-hc1]at cX;have lS:=hid hc1;have aD:Hid (EC ts c1=none->AX (Bh ts f) ts a=(none,c1)):=hid (fun h=>by rw[hc1]at h ⊢;exact J3 HR.out mO.out vZ.out h);obtain⟨A,c0,rfl,aa⟩:=cX.out.tok;have rM:=cX.out.le;have nP:=cX.out.few;obtain⟨⟨k0,k1,k2,k3,k4⟩,⟨f1,f2,f3,f4⟩,vm⟩:=cX.out.blk.five';obtain⟨n,eK⟩:∃n,n=ts.length:=⟨_,rfl⟩;rw[<-eK]at k0 rM ft;have li:=hid eK;have cO:=aa;clear eK hc1 aa;generalize hlx:(lg || x.big)=lgx at *;have Wi:=hid hlx;clear hlx;rcases Nat.lt_or_ge c1 n with hlt|fE
    ·have hlt2:c1<ts.length:=by rw[<-li.out];exact hlt
     obtain⟨bt,zK,hbg,lH,hc⟩:=cO (by omega);subst zK;obtain⟨q0,q1,q2⟩:=hc c1 hlt2;have hI:EC ts c1=if ts[c1].kind=1 then CW ts[c1].text else none:=by
      unfold EC;rw[List.getElem?_eq_getElem hlt2]
     have ev:ts[c1].kind=1->Aq Cq ts[c1].text=ts[c1].text.length:=fun h1=>by
      rcases fz.out ts[c1] (List.getElem_mem hlt2) with ⟨_,_,h,_⟩|⟨h,_⟩|⟨h,_⟩
      ·exact h
      ·omega
      ·omega
     have gG:=hid ev;clear hc ev cO;generalize ts[c1].kind=tk at *;generalize ts[c1].text=tx at *;have z1:decide (n<=c1)=false:=decide_eq_false (by omega);by_cases hk:tk=1
     ·subst hk;rw[if_pos rfl]at hI;by_cases hl2:tx.length<=2
      ·have z2:decide (2<tx.length)=false:=decide_eq_false (by omega);have z3:¬(2:Int)<(tx.length:Int):=by omega
       have fp:=gG.out rfl;have tc:=hid fp;obtain⟨cf,zI⟩:∃cf:World->Nat,∀W:World,(convert 9 221 (str tx)).run Tryz.prog W= .ok (.slice (some ⟨W.heap.size,0,none⟩) tx.length (cf W)) (B3 W tx):=
        ⟨fun W=>Classical.choose (Dt W tx),fun W=>(Classical.choose_spec (Dt W tx)).1⟩
       clear fp;go_wp2_with fail;go_quiet (fail);obtain⟨w6,jg⟩:∃w6,w6=w5.drewN nq:=⟨_,rfl⟩;rw[<-jg];have hd:Dr w5 w6:=by rw[jg];exact(Dr.refl w5).drewN _
       rw[<-hd.cell]at k0 k1 k2 k3 k4 q0 q1 q2;have dB:=hid ((hd.ext.trans (Ext.refl w6).drew).trans (Fu w6.drew tx));have HI:=hid hI;have mC:Hid (∀j,j<tx.length->(B3 w6.drew tx).cell? ⟨w6.heap.size,j,none⟩=some (.int .u8 (Af tx j:Int))):=hid (fun j hj=>EY w6.drew tx j hj);clear jg hd hI;go_upto_region 10 with fail;go_region;clear zI k0 k1 k2 k3 k4 f1 f2 f3 f4 q0 q1 q2 z1 z2 z3;generalize B3 w6.drew tx=wb at *;generalize w6.heap.size=gb at *;generalize cf w6.drew=cb at *;have rt:=cX.out.keep dB.out;have ow:=hid rt;have wF:=hid (fc.out.trans (KR.of_ext dB.out));obtain⟨⟨k0,k1,k2,k3,k4⟩,⟨f1,f2,f3,f4⟩,dy⟩:=rt.blk.five';clear rt;go_wp2_with fail
       go_loop [3,82] (fun s3 qT=>∃i:Nat,i<=tx.length/\s3= .int .i64 (D5 (tx.take i):Int)/\qT= .int .i64 (i:Int)/\Hid ((tx.take i).all (fun c=>Df c.toNat)=true)) (fun _ qT=>tx.length-(intOf qT).toNat)
       case atStart=>exact⟨0,Nat.zero_le _,rfl,rfl,hid rfl⟩
       case round=>
        obtain⟨i,hi,rfl,rfl,fQ⟩:=hrel;by_cases hit:i<tx.length
        ·have hst:=mC.out i hit;have kV:=OO i fQ.out hl2;have bG:=hid (KK tx i hit);have ij:=Bz tx i hit;have uc:=hid (List.take_succ_eq_append_getElem hit);have nW:=CJ tx i;have eb:=(Hf Cq tx i (by rw[tc.out];exact hit)).2;rw[<-ij]at eb;have js:=Jn eb;have gH:=hid ij;obtain⟨c,hc⟩:∃c,c=Af tx i:=⟨_,rfl⟩;rw[<-hc]at hst nW js;have tH:=hid hc;clear ij hc eb;generalize hdv:D5 (tx.take i)=dv at *;have pf:=hid hdv;clear hdv;rcases js with mN|rfl
         ·have y1:((c:Int) == 46)=false:=by rw[beq_eq_false_iff_ne];omega
          have y2:(c == 46)=false:=by rw[beq_eq_false_iff_ne];omega
          have wZ:IntKind.i64.wrap (10*(dv:Int))=((10*dv:Nat):Int):=by rw[IntWalk.i64_in _ (by omega)];omega
          have hwc:IntKind.u8.wrap ((c:Int)-48)=((c-48:Nat):Int):=by
           have:IntKind.u8.wrap ((c:Int)-48)=((c:Int)-48) % 256:=rfl;rw[this];omega
          have yt:IntKind.i64.wrap (((c-48:Nat):Int))=((c-48:Nat):Int):=IntWalk.i64_in _ (by omega);obtain⟨p1,fH⟩:∃p1,p1=10*dv:=⟨_,rfl⟩;obtain⟨p2,fr⟩:∃p2,p2=c-48:=⟨_,rfl⟩;rw[<-fH]at wZ;rw[<-fr]at hwc yt;have pp:IntKind.i64.wrap ((p1:Int)+(p2:Int))=((p1+p2:Nat):Int):=by rw[IntWalk.i64_in _ (by omega)];omega
          obtain⟨p3,l8⟩:∃p3,p3=p1+p2:=⟨_,rfl⟩;rw[<-l8]at pp;have HV:Hid (D5 (tx.take (i+1))=p3):=hid (by rw[bG.out,<-gH.out,<-tH.out,l8,fH,fr]);have pX:Hid ((tx.take (i+1)).all (fun c=>Df c.toNat)=true):=hid (by
           rw[uc.out,List.all_append,fQ.out,List.all_cons,List.all_nil,<-gH.out,<-tH.out];unfold Df;simp[mN.1,mN.2])
          clear fH fr l8 mN;go_wp2_with fail
          go_round
          case rel=>exact⟨i+1,by omega,by rw[HV.out],by go_num,pX⟩
          case measure=>simp[intOf];omega
         ·have i7:Hid (AX (Bh ts f) ts a=(none,c1)):=hid (aD.out (by
           rw[HI.out];unfold CW;rw[if_neg];intro hh;have h2:=List.all_eq_true.1 hh.2 tx[i] (List.getElem_mem hit);rw[<-gH.out,<-tH.out]at h2
           revert h2
           decide))
          go_wp2_with fail
          (try simp only[Exit.inBlock,Exit.then])
          first
           |refine bodyPost_ret (results_none rfl _ _ _) rfl ?_
           |refine bodyPost_end (results_none rfl _ _ _) rfl ?_
          have h3:=ow.out.fail;exact Aw.mkN i7.out (wF.out.trans h3.2) h3.1
        ·obtain rfl:i=tx.length:=by omega
         have kD:=fQ.out;rw[List.take_of_length_le (Nat.le_refl _)]at kD;rw[List.take_of_length_le (Nat.le_refl _)];have jr:EC ts c1=some (D5 tx):=by
          rw[HI.out];unfold CW D5;rw[if_pos ⟨hl2,kD⟩]
         have yU:=IP jr;obtain⟨z,hz⟩:∃z:Int,z= -(D5 tx:Int):=⟨_,rfl⟩;have iw:Hid (AX (Bh ts f) ts a=(some (.un 10 z x),c1+1)):=hid (by
          rw[hz,lS.out];rw[lS.out]at jr;exact NJ HR.out mO.out vZ.out jr)
         have VB:Hid (z=(D5 tx:Int)\/z= -(D5 tx:Int)):=hid (by omega);generalize D5 tx=dv at *;have Zx:IntKind.i64.wrap (-(dv:Int))=z:=by rw[IntWalk.i64_in _ (by omega),hz]
         have aZ:IntKind.i64.wrap ((c1:Int)+1)=(c1:Int)+1:=IntWalk.i64_in _ (by omega);clear kD hz jr;go_upto_region 18 with fail;have hst:=ow.out.stepR hlt2;obtain⟨w7,fm⟩:∃w7,w7=wb.setCell ⟨g,1,none⟩ (.int .i64 ((c1:Int)+1)):=⟨_,rfl⟩;rw[<-fm]at hst ⊢;have my:=hid (wF.out.trans hst.2);have wj:=hid hst.1;obtain⟨⟨k0,k1,k2,k3,k4⟩,⟨f1,f2,f3,f4⟩,jG⟩:=hst.1.blk.five';clear hst fm;have kI:Hid (∀q,q=(lgx || decide (64<dv))->q=(lg || (Ex.un 10 z x).big)):=hid (fun q hq=>by
          rw[hq,OS VB.out,<-Wi.out];cases lg<;>cases x.big<;>simp)
         have ml:∀q:Bool,q=(lgx || decide (64<dv))->Hid (∃w8,w8=w7.setCell ⟨g,4,none⟩ (.bool q)/\RdR g w8 ts (c1+1) false (ns++Ak ns.length x) q _ bL/\KR g nv bL w w8):=fun q _=>hid (by
          have h:=wj.out.large q;exact⟨_,rfl,h.1,my.out.trans h.2⟩)
         have kU:(ns++Ak ns.length x).length+1<=c1+1:=by omega
         cases lgx
         ·by_cases hq:64<dv
          ·have rx:decide (64<dv)=true:=decide_eq_true hq;have yO:(64:Int)<(dv:Int):=by omega
           have gZ:true=(false || decide (64<dv)):=by rw[rx];rfl
           obtain⟨w8,eD,cJ,eM⟩:=(ml true gZ).out;have HQ:=hid (kI.out true gZ);clear gZ;go_upto_region 19 with fail;rw[<-eD];have bH:=hid (B7 g w8 ts (c1+1) false _ true _ bL 10 0 z [] cJ kU);rw[show str []= .string ⟨#[]⟩ from rfl,Ey]at bH;have mw:=hid eM;clear eD cJ eM ml k0 k1 k2 k3 k4 f1 f2 f3 f4;go_wp2_with fail;refine bH.out.mono ?_
           rintro e w9 ⟨nv2,rfl,jl,gL⟩;have rg:=x.size_pos;have HF:Hid (RdR g w9 ts (c1+1) false (ns++Ak ns.length (.un 10 z x)) (lg || (Ex.un 10 z x).big) _ nv2):=hid (gL.as HQ.out (by
            rw[BZ,<-List.append_assoc,Bv,show ((ns.length+x.size-1:Nat):Int)=((ns.length+x.size:Nat):Int)-1 by omega];rfl))
           have oJ:=hid (mw.out.trans jl);clear jl gL;go_wp2_with fail
           (try simp only[Exit.inBlock,Exit.then])
           first
            |refine bodyPost_ret (results_none rfl _ _ _) rfl ?_
            |refine bodyPost_end (results_none rfl _ _ _) rfl ?_
           exact Aw.mkS iw.out oJ.out HF.out
          ·have rx:decide (64<dv)=false:=decide_eq_false hq;have yO:¬(64:Int)<(dv:Int):=by omega
           have gZ:false=(false || decide (64<dv)):=by rw[rx];rfl
           obtain⟨w8,eD,cJ,eM⟩:=(ml false gZ).out;have HQ:=hid (kI.out false gZ);clear gZ;go_upto_region 19 with fail;rw[<-eD];have bH:=hid (B7 g w8 ts (c1+1) false _ false _ bL 10 0 z [] cJ kU);rw[show str []= .string ⟨#[]⟩ from rfl,Ey]at bH;have mw:=hid eM;clear eD cJ eM ml k0 k1 k2 k3 k4 f1 f2 f3 f4;go_wp2_with fail;refine bH.out.mono ?_
           rintro e w9 ⟨nv2,rfl,jl,gL⟩;have rg:=x.size_pos;have HF:Hid (RdR g w9 ts (c1+1) false (ns++Ak ns.length (.un 10 z x)) (lg || (Ex.un 10 z x).big) _ nv2):=hid (gL.as HQ.out (by
            rw[BZ,<-List.append_assoc,Bv,show ((ns.length+x.size-1:Nat):Int)=((ns.length+x.size:Nat):Int)-1 by omega];rfl))
           have oJ:=hid (mw.out.trans jl);clear jl gL;go_wp2_with fail
           (try simp only[Exit.inBlock,Exit.then])
           first
            |refine bodyPost_ret (results_none rfl _ _ _) rfl ?_
            |refine bodyPost_end (results_none rfl _ _ _) rfl ?_
           exact Aw.mkS iw.out oJ.out HF.out
         ·have gZ:true=(true || decide (64<dv)):=rfl;obtain⟨w8,eD,cJ,eM⟩:=(ml true gZ).out;have HQ:=hid (kI.out true gZ);clear gZ;go_upto_region 19 with fail;rw[<-eD];have bH:=hid (B7 g w8 ts (c1+1) false _ true _ bL 10 0 z [] cJ kU);rw[show str []= .string ⟨#[]⟩ from rfl,Ey]at bH;have mw:=hid eM;clear eD cJ eM ml k0 k1 k2 k3 k4 f1 f2 f3 f4;go_wp2_with fail;refine bH.out.mono ?_
          rintro e w9 ⟨nv2,rfl,jl,gL⟩;have rg:=x.size_pos;have HF:Hid (RdR g w9 ts (c1+1) false (ns++Ak ns.length (.un 10 z x)) (lg || (Ex.un 10 z x).big) _ nv2):=hid (gL.as HQ.out (by
           rw[BZ,<-List.append_assoc,Bv,show ((ns.length+x.size-1:Nat):Int)=((ns.length+x.size:Nat):Int)-1 by omega];rfl))
          have oJ:=hid (mw.out.trans jl);clear jl gL;go_wp2_with fail
          (try simp only[Exit.inBlock,Exit.then])
          first
           |refine bodyPost_ret (results_none rfl _ _ _) rfl ?_
           |refine bodyPost_end (results_none rfl _ _ _) rfl ?_
          exact Aw.mkS iw.out oJ.out HF.out
      ·have i7:Hid (AX (Bh ts f) ts a=(none,c1)):=hid (aD.out (by rw[hI];unfold CW;rw[if_neg (fun h=>hl2 h.1)]));have z2:decide (2<tx.length)=true:=decide_eq_true (by omega);have z3:(2:Int)<(tx.length:Int):=by omega
       clear hI hl2;go_wp2_with fail;go_quiet (fail);go_wp2_with fail
       (try simp only[Exit.inBlock,Exit.then])
       first
        |refine bodyPost_ret (results_none rfl _ _ _) rfl ?_
        |refine bodyPost_end (results_none rfl _ _ _) rfl ?_
       have h3:=(cX.out.keep ((Ext.refl w5).drewN nq)).fail;exact Aw.mkN i7.out (fc.out.trans ((KR.of_ext ((Ext.refl w5).drewN nq)).trans h3.2)) h3.1
     ·have hk2:((tk:Int) != 1)=true:=by rw[bne_iff_ne];omega
      have i7:Hid (AX (Bh ts f) ts a=(none,c1)):=hid (aD.out (by rw[hI,if_neg hk]));clear hI hk;go_wp2_with fail;go_quiet (fail);go_wp2_with fail
      (try simp only[Exit.inBlock,Exit.then])
      first
       |refine bodyPost_ret (results_none rfl _ _ _) rfl ?_
       |refine bodyPost_end (results_none rfl _ _ _) rfl ?_
      have h3:=(cX.out.keep ((Ext.refl w5).drewN nq)).fail;exact Aw.mkN i7.out (fc.out.trans ((KR.of_ext ((Ext.refl w5).drewN nq)).trans h3.2)) h3.1
    ·have i7:Hid (AX (Bh ts f) ts a=(none,c1)):=hid (aD.out (by
      unfold EC;rw[List.getElem?_eq_none (by rw[<-li.out];exact fE)]))
     have z1:decide (n<=c1)=true:=decide_eq_true fE;have z2:(n:Int)<=(c1:Int):=by omega
     clear cO;go_wp2_with fail;go_quiet (fail);go_wp2_with fail
     (try simp only[Exit.inBlock,Exit.then])
     first
      |refine bodyPost_ret (results_none rfl _ _ _) rfl ?_
      |refine bodyPost_end (results_none rfl _ _ _) rfl ?_
     have h3:=(cX.out.keep ((Ext.refl w5).drewN nq)).fail;exact Aw.mkN i7.out (fc.out.trans ((KR.of_ext ((Ext.refl w5).drewN nq)).trans h3.2)) h3.1
section
variable {p:Nat->Option Ex × Nat} {ts:List Tok} {a b:Nat} {x:Ex}
theorem Jk(h:isS ts a [45]=false):BJ p ts a=AX p ts a:=by
 unfold BJ;rw[Vi h,Nat.add_zero];rcases AX p ts a with ⟨_|x,b⟩<;>rfl
theorem Me(h:isS ts a [45]=true)(hr:BJ p ts (a+1)=(none,b)):BJ p ts a=(none,b):=by
 unfold BJ at hr ⊢;rw[T7 h,show a+(Bd ts ts.length (a+1)+1)=a+1+Bd ts ts.length (a+1) by omega];rcases h2:AX p ts (a+1+Bd ts ts.length (a+1)) with ⟨_|x,b⟩
 ·rw[h2]at hr;exact hr
 ·rw[h2]at hr;simp at hr
theorem Md(h:isS ts a [45]=true)(hr:BJ p ts (a+1)=(some x,b)):BJ p ts a=(some (.un 5 0 x),b):=by
 unfold BJ at hr ⊢;rw[T7 h,show a+(Bd ts ts.length (a+1)+1)=a+1+Bd ts ts.length (a+1) by omega];rcases h2:AX p ts (a+1+Bd ts ts.length (a+1)) with ⟨_|y,b'⟩
 ·rw[h2]at hr;simp at hr
 ·rw[h2]at hr;simp only[Prod.mk.injEq,Option.some.injEq]at hr ⊢;obtain⟨rfl,rfl⟩:=hr;exact⟨PV _ _,rfl⟩
end
theorem RF{len:Nat}:Ep 5 0 0 len []=⟨5,(len:Int)-1,0,0,[]⟩:=by
 unfold Ep;rw[if_pos (by decide)]
theorem GS{k first:Int}(hk:Ay k=2){len:Nat}:Ep k first 0 len []=⟨k,first,(len:Int)-1,0,[]⟩:=by
 unfold Ep;rw[if_neg (by rw[hk];decide),if_pos hk]
theorem Nw(g:Nat)(ts:List Tok)(tv:Value)(f:Nat)(jp:∀t∈ts,Cz t)(d:Nat):∀a,ts.length<=a+d->(∀a',a<a'->SI g ts tv f a')->∀(w:World) (ns:List Nd) (lg:Bool) (nv:Value),RdR g w ts a false ns lg tv nv->
  Calls Tryz.prog 172 #[.pointer (some ⟨g,0,none⟩)] w (Aw g ts tv ns nv lg (BJ (Bh ts f) ts a) w):=by
 induction d with
 |zero=>
  intro a xq hs w ns lg nv h;have hz:isS ts a [45]=false:=by
   unfold isS;rw[List.getElem?_eq_none (by omega)]
  have HM:=hid (Jk (p:=Bh ts f) hz);have lP:=hid (CL g w ts a false ns lg tv nv [45] h);rw[show str [45]= .string ⟨#[45]⟩ from rfl,hz]at lP;simp only[Bool.and_false]at lP;have lN:=hid (fun W h=>I7 g ts tv f a jp hs W ns lg nv h);have HR:=hid h;clear h hs hz xq jp;go_enter Tryz.func172,Tryz.ntmps172;go_wp2_with fail;refine lP.out.mono ?_
  rintro e w2 ⟨rfl,hd⟩;have HE:=hid (And.intro (HR.out.keep hd.ext) (KR.of_ext (g:=g) (nv:=nv) hd.ext));clear hd;go_wp2_with fail;refine(lN.out w2 HE.out.1).mono ?_
  rintro e w3 aw;obtain⟨rfl,tJ,jY,hm⟩:=aw;have V2:Hid (Aw g ts tv ns nv lg (BJ (Bh ts f) ts a) w (.returned (.tuple #[])) w3):=hid (by
   rw[HM.out];exact⟨rfl,tJ,HE.out.2.trans jY,hm⟩)
  clear jY hm;go_wp2_with fail
  (try simp only[Exit.inBlock,Exit.then])
  first
   |refine bodyPost_ret (results_none rfl _ _ _) rfl ?_
   |refine bodyPost_end (results_none rfl _ _ _) rfl ?_
  exact V2.out
 |succ d ih=>
  intro a xq hs w ns lg nv h;have lP:=hid (CL g w ts a false ns lg tv nv [45] h);rw[show str [45]= .string ⟨#[45]⟩ from rfl]at lP;simp only[Bool.not_false,Bool.true_and]at lP;have HR:=hid h;have fz:=hid jp;obtain⟨u,hz⟩:∃u,isS ts a [45]=u:=⟨_,rfl⟩;rw[hz]at lP;cases u
  ·have HM:=hid (Jk (p:=Bh ts f) hz);have lN:=hid (fun W h=>I7 g ts tv f a jp hs W ns lg nv h);clear h hs hz xq jp ih;go_enter Tryz.func172,Tryz.ntmps172;go_wp2_with fail;refine lP.out.mono ?_
   rintro e w2 ⟨rfl,hd⟩;have HE:=hid (And.intro (HR.out.keep hd.ext) (KR.of_ext (g:=g) (nv:=nv) hd.ext));clear hd;go_wp2_with fail;refine(lN.out w2 HE.out.1).mono ?_
   rintro e w3 aw;obtain⟨rfl,tJ,jY,hm⟩:=aw;have V2:Hid (Aw g ts tv ns nv lg (BJ (Bh ts f) ts a) w (.returned (.tuple #[])) w3):=hid (by
    rw[HM.out];exact⟨rfl,tJ,HE.out.2.trans jY,hm⟩)
   clear jY hm;go_wp2_with fail
   (try simp only[Exit.inBlock,Exit.then])
   first
    |refine bodyPost_ret (results_none rfl _ _ _) rfl ?_
    |refine bodyPost_end (results_none rfl _ _ _) rfl ?_
   exact V2.out
  ·have hlt:=Cl hz;have ft:=h.max;have HIH:=hid (ih (a+1) (by omega) (fun a' h'=>hs a' (by omega)));have hga:=Fi (DQ ts f) (a+1) hlt;have HZ:=hid hz;have wZ:IntKind.i64.wrap ((a:Int)+1)=(a:Int)+1:=IntWalk.i64_in _ (by omega);clear h hs hz xq jp ih;go_enter Tryz.func172,Tryz.ntmps172;go_wp2_with fail;refine lP.out.mono ?_
   rintro e w2 ⟨rfl,hd⟩;have hr2:=HR.out.keep hd.ext;have gA:=hid hr2;have lO:=hid (KR.of_ext (g:=g) (nv:=nv) hd.ext);obtain⟨⟨k0,k1,k2,k3,k4⟩,⟨f1,f2,f3,f4⟩,sb⟩:=hr2.blk.five';clear hd hr2;go_upto_region 2 with fail;have hst:=gA.out.stepR hlt;obtain⟨w3,fA⟩:∃w3,w3=w2.setCell ⟨g,1,none⟩ (.int .i64 ((a:Int)+1)):=⟨_,rfl⟩;rw[<-fA]at hst ⊢;have gE:=hid (lO.out.trans hst.2);have pi:=hid (HIH.out w3 ns lg nv hst.1);clear hst fA k0 k1 k2 k3 k4 f1 f2 f3 f4;go_wp2_with fail;refine pi.out.mono ?_
   intro e w4 aw;obtain⟨r,hr⟩:∃r,BJ (Bh ts f) ts (a+1)=r:=⟨_,rfl⟩;rw[hr]at hga;obtain⟨_|x,b⟩:=r
   ·obtain⟨rfl,pY,ns4,lg4,bf,hk⟩:=aw.none_ hr;have HD:=hid (Me HZ.out hr);have HE:=hid (And.intro (gE.out.trans hk) bf);obtain⟨⟨k0,k1,k2,k3,k4⟩,⟨f1,f2,f3,f4⟩,o8⟩:=bf.blk.five';clear aw hr bf hk hga;go_wp2_with fail
    (try simp only[Exit.inBlock,Exit.then])
    first
     |refine bodyPost_ret (results_none rfl _ _ _) rfl ?_
     |refine bodyPost_end (results_none rfl _ _ _) rfl ?_
    exact Aw.mkN HD.out HE.out.1 HE.out.2
   ·obtain⟨rfl,pY,bf,hk⟩:=aw.some_ hr;have vj:=hga.2.2 x rfl;have ed:=hga.2.1;simp only at vj ed;have HD:=hid (Md HZ.out hr);have i9:=hid (gE.out.trans hk);have vn:(ns++Ak ns.length x).length+1<=b:=by have:=HR.out.few;rw[Bv];omega
    have bH:=hid (B7 g w4 ts b false _ _ tv pY 5 0 0 [] bf vn);rw[show str []= .string ⟨#[]⟩ from rfl,RF]at bH;obtain⟨⟨k0,k1,k2,k3,k4⟩,⟨f1,f2,f3,f4⟩,o8⟩:=bf.blk.five';clear aw hr bf hk hga vn;go_wp2_with fail;refine bH.out.mono ?_
    rintro e w5 ⟨Zj,rfl,qn,cT⟩;have rg:=x.size_pos;have hbg:(lg || x.big)=(lg || (Ex.un 5 0 x).big):=by rw[Ex.big];rfl
    have HF:Hid (RdR g w5 ts b false (ns++Ak ns.length (.un 5 0 x)) (lg || (Ex.un 5 0 x).big) tv Zj):=hid (cT.as hbg (by
     rw[BZ,<-List.append_assoc,Bv,show ((ns.length+x.size-1:Nat):Int)=((ns.length+x.size:Nat):Int)-1 by omega];rfl))
    have fc:=hid (i9.out.trans qn);clear qn cT hbg;go_wp2_with fail
    (try simp only[Exit.inBlock,Exit.then])
    first
     |refine bodyPost_ret (results_none rfl _ _ _) rfl ?_
     |refine bodyPost_end (results_none rfl _ _ _) rfl ?_
    exact Aw.mkS HD.out fc.out HF.out
structure LH (g:Nat) (ts:List Tok) (tv:Value) (ns:List Nd) (nv:Value) (lg:Bool) (w:World) (C:Option Ex × Nat) (op:Nat->Option Ex × Nat) (s1 s2:List UInt8) (k1 k2 a f b:Nat) (x:Ex) (nv':Value) (wr:World):Prop where
 rd:RdR g wr ts b false (ns++Ak ns.length x) (lg || x.big) tv nv'
 kr:KR g nv nv' w wr
 eq:C=BC op ts s1 s2 k1 k2 f x b
 fuel:ts.length<=b+f
 lo:a<=b
 sz:ns.length+x.size<=b
theorem LH.next {g:Nat} {ts:List Tok} {tv nv bL nv2 tJ pY:Value} {ns:List Nd} {lg:Bool} {w wr w1 w2 w3:World} {C:Option Ex × Nat} {op:Nat->Option Ex × Nat} {s1 s2:List UInt8} {k1 k2 a f b b' k n1 n2:Nat} {x y:Ex}
  (h:LH g ts tv ns nv lg w C op s1 s2 k1 k2 a f b x bL wr) (hc:C=BC op ts s1 s2 k1 k2 (f-1) (.bin k x y) b') (hb:b+1+y.size<=b') (hr:RdR g w3 ts b' false (((ns++Ak ns.length x)++Ak (ns++Ak ns.length x).length y)++[⟨(k:Int),(n1:Int)-1,(n2:Int)-1,0,[]⟩]) ((lg || x.big) || y.big) tv pY)
  (du:n1=(ns++Ak ns.length x).length) (hn2:n2=((ns++Ak ns.length x)++Ak (ns++Ak ns.length x).length y).length)
  (fu:KR g bL nv2 wr w1) (hk2:KR g nv2 tJ w1 w2) (jY:KR g tJ pY w2 w3):LH g ts tv ns nv lg w C op s1 s2 k1 k2 a (f-1) b' (.bin k x y) pY w3:=by
 subst du;subst hn2;have hx:=x.size_pos;have hy:=y.size_pos;have h1:=h.fuel;have h2:=h.lo;have h3:=h.sz;refine⟨?_,((h.kr.trans fu).trans hk2).trans jY,hc,by omega,by omega,by rw[Ex.size];omega⟩;refine hr.as (by rw[Ex.big,Bool.or_assoc]) ?_
 rw[Si];have e1:(ns++Ak ns.length x).length=ns.length+x.size:=Bv;rw[e1];have e2:((ns++Ak ns.length x)++Ak (ns.length+x.size) y).length=ns.length+x.size+y.size:=by rw[List.length_append,e1,AO]
 rw[e2];rw[show ((ns.length+x.size-1:Nat):Int)=((ns.length+x.size:Nat):Int)-1 by omega,show ((ns.length+x.size+y.size-1:Nat):Int)=((ns.length+x.size+y.size:Nat):Int)-1 by omega];simp only[List.append_assoc]
def LoR(g:Nat)(ts:List Tok)(tv:Value)(ns:List Nd)(nv:Value)(lg:Bool)(w:World)(C:Option Ex × Nat)(op:Nat->Option Ex × Nat)(s1 s2:List UInt8)(k1 k2 a:Nat)(b:Nat)(wr:World):Prop:=
 (C=(none,b)/\∃nv' ns' lg',RdR g wr ts b true ns' lg' tv nv'/\KR g nv nv' w wr)\/∃f x nv',LH g ts tv ns nv lg w C op s1 s2 k1 k2 a f b x nv' wr
theorem OE{ts:List Tok}{b:Nat}{c d:List UInt8}(h:isS ts b c=true)(xl:(c == d)=false):isS ts b d=false:=by
 unfold isS at h ⊢;cases h2:ts[b]? with
 |none=>rfl
 |some t=>
  rw[h2]at h;simp only[Bool.and_eq_true,beq_iff_eq]at h;simp only[h.2,xl,Bool.and_false]
theorem K3(g:Nat)(ts:List Tok)(tv:Value)(f a:Nat)(jp:∀t∈ts,Cz t)(hs:∀a',a<a'->SI g ts tv f a')(w:World)(ns:List Nd)(lg:Bool)(nv:Value)(h:RdR g w ts a false ns lg tv nv):
  Calls Tryz.prog 128 #[.pointer (some ⟨g,0,none⟩)] w (Aw g ts tv ns nv lg (FT (Bh ts f) ts a) w):=by
 have aT:Hid (∀a',a<=a'->∀w ns lg nv,RdR g w ts a' false ns lg tv nv->Calls Tryz.prog 172 #[.pointer (some ⟨g,0,none⟩)] w (Aw g ts tv ns nv lg (BJ (Bh ts f) ts a') w)):=
  hid (fun a' ha w ns lg nv h=>Nw g ts tv f jp ts.length a' (by omega) (fun b hb=>hs b (by omega)) w ns lg nv h)
 have HG:=hid (Fi (DQ ts f));obtain⟨C,hC⟩:∃C,CZ (BJ (Bh ts f) ts) ts [42] [47] 8 9 a=C:=⟨_,rfl⟩;rw[show FT (Bh ts f) ts a=CZ (BJ (Bh ts f) ts) ts [42] [47] 8 9 a from rfl,hC];generalize BJ (Bh ts f) ts=op at *;clear hs jp;have iu:=hid (fun W a bad ns lg nv h=>CL g W ts a bad ns lg tv nv [42] h);have gF:=hid (fun W a bad ns lg nv h=>CL g W ts a bad ns lg tv nv [47] h);rw[show str [42]= .string ⟨#[42]⟩ from rfl]at iu;rw[show str [47]= .string ⟨#[47]⟩ from rfl]at gF;have cp:=h.le;have ft:=h.max;have eX:=h.few;have HC:Hid (∀r,op a=r->C=match r with|(none,b)=>(none,b)|(some x,b)=>BC op ts [42] [47] 8 9 ts.length x b):=hid (fun r hr=>by rw[<-hC];unfold CZ;rw[hr]<;>(obtain⟨_|x,b⟩:=r<;>rfl));have hga:=HG.out a cp;have HO:=hid (aT.out a (Nat.le_refl _) w ns lg nv h);clear h hC;go_enter Tryz.func128,Tryz.ntmps128;go_wp2_with fail;refine HO.out.mono ?_
 intro e w3 aw;have hst:e= .returned (.tuple #[])/\∃b,LoR g ts tv ns nv lg w C op [42] [47] 8 9 a b w3:=by
  obtain⟨r,hr⟩:∃r,op a=r:=⟨_,rfl⟩;have hC:=HC.out r hr;rw[hr]at hga;obtain⟨_|x,b⟩:=r
  ·obtain⟨rfl,bL,kt,kv,bf,hk⟩:=aw.none_ hr;exact⟨rfl,b,.inl ⟨hC,bL,kt,kv,bf,hk⟩⟩
  ·obtain⟨rfl,bL,bf,hk⟩:=aw.some_ hr;have jm:=hga.2.2 x rfl;have ed:=hga.1;simp only at jm ed;exact⟨rfl,b,.inr ⟨ts.length,x,bL,bf,hk,hC,by omega,ed,by omega⟩⟩
 obtain⟨rfl,b0,fC⟩:=hst;have ir:=hid fC;clear aw fC hga HO HC;go_wp2_with fail
 go_loopg [] (ts.length-b0) (fun gh wr=>∃b,gh=ts.length-b/\LoR g ts tv ns nv lg w C op [42] [47] 8 9 a b wr)
 case atStart=>exact⟨b0,rfl,ir.out⟩
 case round=>
  obtain⟨b,jn,⟨hcn,bL,kt,kv,bf,vd⟩|⟨od,x,bL,a5⟩⟩:=hrel
  ·have HE:=hid (And.intro vd bf);have WD:=hid hcn;have ai:=hid (iu.out wr b true kt kv bL bf);simp only[Bool.not_true,Bool.false_and]at ai;clear jn hcn bf vd ir;go_wp2_with fail;refine ai.out.mono ?_
   rintro e w4 ⟨rfl,hd⟩;have eJ:=hid (And.intro (HE.out.1.trans (KR.of_ext hd.ext)) (HE.out.2.keep hd.ext));have a6:=hid (gF.out w4 b true kt kv bL eJ.out.2);simp only[Bool.not_true,Bool.false_and]at a6;clear hd;go_wp2_with fail;refine a6.out.mono ?_
   rintro e w5 ⟨rfl,hd⟩;have jd:=hid (And.intro (eJ.out.1.trans (KR.of_ext hd.ext)) (eJ.out.2.keep hd.ext));clear hd;go_wp2_with fail
   (try simp only[Exit.inBlock,Exit.then])
   first
    |refine bodyPost_ret (results_none rfl _ _ _) rfl ?_
    |refine bodyPost_end (results_none rfl _ _ _) rfl ?_
   exact Aw.mkN WD.out jd.out.1 jd.out.2
  ·have jb:=hid jn;have HI:=hid a5;have ar:=hid (iu.out wr b false _ _ bL a5.rd);simp only[Bool.not_false,Bool.true_and]at ar;have eP:=a5.rd.le;have zP:=a5.fuel;clear jn a5 ir;obtain⟨u1,dS⟩:∃u,isS ts b [42]=u:=⟨_,rfl⟩;rw[dS]at ar;cases u1
   ·go_wp2_with fail;refine ar.out.mono ?_
    rintro e xS ⟨rfl,hd⟩;have gE:=hid (KR.of_ext (g:=g) (nv:=bL) hd.ext);have eI:=hid (HI.out.rd.keep hd.ext);have aI:=hid (gF.out xS b false _ _ bL eI.out);simp only[Bool.not_false,Bool.true_and]at aI;clear hd;obtain⟨u2,dF⟩:∃u,isS ts b [47]=u:=⟨_,rfl⟩;rw[dF]at aI;cases u2
    ·have Wz:Hid (C=(some x,b)):=hid (by rw[HI.out.eq,GQ od dS dF]);go_wp2_with fail;refine aI.out.mono ?_
     rintro e w4 ⟨rfl,hd⟩;have HE:=hid (And.intro ((HI.out.kr.trans gE.out).trans (KR.of_ext hd.ext)) (eI.out.keep hd.ext));clear hd;go_wp2_with fail
     (try simp only[Exit.inBlock,Exit.then])
     first
      |refine bodyPost_ret (results_none rfl _ _ _) rfl ?_
      |refine bodyPost_end (results_none rfl _ _ _) rfl ?_
     exact Aw.mkS Wz.out HE.out.1 HE.out.2
    ·have hU:=Cl dF;have uw:IntKind.i64.wrap ((b:Int)+1)=(b:Int)+1:=IntWalk.i64_in _ (by omega);go_wp2_with fail;refine aI.out.mono ?_
     rintro e w4 ⟨rfl,hd⟩;have i9:=hid (gE.out.trans (KR.of_ext hd.ext));have dC:=hid (eI.out.keep hd.ext);have bw:=hid (gF.out w4 b false _ _ bL dC.out);simp only[Bool.not_false,Bool.true_and]at bw;rw[dF]at bw;clear hd;go_wp2_with fail;refine bw.out.mono ?_
     rintro e w5 ⟨rfl,hd⟩;have cT:=dC.out.keep hd.ext;have cX:=hid cT;have fc:=hid (i9.out.trans (KR.of_ext hd.ext));obtain⟨A2,c2,rfl⟩:=cT.row.shape;obtain⟨n1,du⟩:∃n1,n1=(ns++Ak ns.length x).length:=⟨_,rfl⟩;obtain⟨⟨k0,k1,k2,k3,k4⟩,⟨f1,f2,f3,f4⟩,vm⟩:=cT.blk.five';have kO:1<=n1:=by rw[du,Bv];have:=x.size_pos;omega
     have nP:n1<=b:=by rw[du];exact cT.few
     rw[<-du]at k3;have i6:=hid du;have tM:IntKind.i64.wrap ((n1:Int)-1)=(n1:Int)-1:=IntWalk.i64_in _ (by omega);clear hd cT du;go_upto_region 7 with fail;have hst:=cX.out.stepR hU;obtain⟨w6,jg⟩:∃w6,w6=w5.setCell ⟨g,1,none⟩ (.int .i64 ((b:Int)+1)):=⟨_,rfl⟩;rw[<-jg]at hst ⊢;have iQ:=hid (fc.out.trans hst.2);have d9:=hid (aT.out (b+1) (by have:=HI.out.lo;omega) w6 _ _ _ hst.1);have dy:=HG.out (b+1) hU;obtain⟨r,hr⟩:∃r,op (b+1)=r:=⟨_,rfl⟩;have mD:Hid (C=Hr op ts [42] [47] 8 9 (od-1) 9 x r):=hid (by rw[HI.out.eq,Ir (by omega) dS dF,hr]);rw[hr]at dy;clear hst jg k0 k1 k2 k3 k4 f1 f2 f3 f4;go_wp2_with fail;refine d9.out.mono ?_
     intro e w7 aw;obtain⟨_|y,b'⟩:=r
     ·obtain⟨rfl,kM,qV,qX,bf,hk⟩:=aw.none_ hr;have ed:=dy.1;simp only at ed;have cP:=dy.2.1;simp only at cP;have HF:Hid (LoR g ts tv ns nv lg w C op [42] [47] 8 9 a b' w7):=hid (.inl ⟨mD.out,kM,qV,qX,bf,(HI.out.kr.trans iQ.out).trans hk⟩);obtain⟨⟨k0,k1,k2,k3,k4⟩,⟨f1,f2,f3,f4⟩,jG⟩:=bf.blk.five';clear aw hr bf hk dy;go_wp2_with fail
      go_roundg (ts.length-b')
      case rel=>exact⟨b',rfl,HF.out⟩
      case measure=>rw[jb.out];omega
     ·obtain⟨rfl,kM,bf,hk⟩:=aw.some_ hr;have kN:=dy.2.2 y rfl;have cP:=dy.2.1;simp only at kN cP;have my:=hid hk;have ie:((ns++Ak ns.length x)++Ak (ns++Ak ns.length x).length y).length+1<=b':=by have:=HI.out.sz;rw[Bv,Bv];omega
      have bH:=hid (B7 g w7 ts b' false _ _ tv kM 9 ((n1:Int)-1) 0 [] bf ie);rw[show str []= .string ⟨#[]⟩ from rfl,GS (by decide)]at bH;obtain⟨n2,hn2⟩:∃n2,n2=((ns++Ak ns.length x)++Ak (ns++Ak ns.length x).length y).length:=⟨_,rfl⟩;rw[<-hn2]at bH;have ez:=hid hn2;obtain⟨⟨k0,k1,k2,k3,k4⟩,⟨f1,f2,f3,f4⟩,jG⟩:=bf.blk.five';clear aw hr bf hk dy hn2 ie;go_wp2_with fail;refine bH.out.mono ?_
      rintro e w8 ⟨qU,rfl,eM,cJ⟩;have HF:Hid (LoR g ts tv ns nv lg w C op [42] [47] 8 9 a b' w8):=hid (.inr ⟨od-1,.bin 9 x y,qU,HI.out.next mD.out kN cJ i6.out ez.out iQ.out my.out eM⟩);clear eM cJ;go_wp2_with fail
      go_roundg (ts.length-b')
      case rel=>exact⟨b',rfl,HF.out⟩
      case measure=>rw[jb.out];omega
   ·have hU:=Cl dS;have uw:IntKind.i64.wrap ((b:Int)+1)=(b:Int)+1:=IntWalk.i64_in _ (by omega);have dF:=OE (d:=[47]) dS (by decide);go_wp2_with fail;refine ar.out.mono ?_
    rintro e w4 ⟨rfl,hd⟩;have i9:=hid (KR.of_ext (g:=g) (nv:=bL) hd.ext);have dC:=hid (HI.out.rd.keep hd.ext);have bw:=hid (gF.out w4 b false _ _ bL dC.out);simp only[Bool.not_false,Bool.true_and]at bw;rw[dF]at bw;clear hd;go_wp2_with fail;refine bw.out.mono ?_
    rintro e w5 ⟨rfl,hd⟩;have cT:=dC.out.keep hd.ext;have cX:=hid cT;have fc:=hid (i9.out.trans (KR.of_ext hd.ext));obtain⟨A2,c2,rfl⟩:=cT.row.shape;obtain⟨n1,du⟩:∃n1,n1=(ns++Ak ns.length x).length:=⟨_,rfl⟩;obtain⟨⟨k0,k1,k2,k3,k4⟩,⟨f1,f2,f3,f4⟩,vm⟩:=cT.blk.five';have kO:1<=n1:=by rw[du,Bv];have:=x.size_pos;omega
    have nP:n1<=b:=by rw[du];exact cT.few
    rw[<-du]at k3;have i6:=hid du;have tM:IntKind.i64.wrap ((n1:Int)-1)=(n1:Int)-1:=IntWalk.i64_in _ (by omega);clear hd cT du;go_upto_region 7 with fail;have hst:=cX.out.stepR hU;obtain⟨w6,jg⟩:∃w6,w6=w5.setCell ⟨g,1,none⟩ (.int .i64 ((b:Int)+1)):=⟨_,rfl⟩;rw[<-jg]at hst ⊢;have iQ:=hid (fc.out.trans hst.2);have d9:=hid (aT.out (b+1) (by have:=HI.out.lo;omega) w6 _ _ _ hst.1);have dy:=HG.out (b+1) hU;obtain⟨r,hr⟩:∃r,op (b+1)=r:=⟨_,rfl⟩;have mD:Hid (C=Hr op ts [42] [47] 8 9 (od-1) 8 x r):=hid (by rw[HI.out.eq,It (by omega) dS,hr]);rw[hr]at dy;clear hst jg k0 k1 k2 k3 k4 f1 f2 f3 f4;go_wp2_with fail;refine d9.out.mono ?_
    intro e w7 aw;obtain⟨_|y,b'⟩:=r
    ·obtain⟨rfl,kM,qV,qX,bf,hk⟩:=aw.none_ hr;have ed:=dy.1;simp only at ed;have cP:=dy.2.1;simp only at cP;have HF:Hid (LoR g ts tv ns nv lg w C op [42] [47] 8 9 a b' w7):=hid (.inl ⟨mD.out,kM,qV,qX,bf,(HI.out.kr.trans iQ.out).trans hk⟩);obtain⟨⟨k0,k1,k2,k3,k4⟩,⟨f1,f2,f3,f4⟩,jG⟩:=bf.blk.five';clear aw hr bf hk dy;go_wp2_with fail
     go_roundg (ts.length-b')
     case rel=>exact⟨b',rfl,HF.out⟩
     case measure=>rw[jb.out];omega
    ·obtain⟨rfl,kM,bf,hk⟩:=aw.some_ hr;have kN:=dy.2.2 y rfl;have cP:=dy.2.1;simp only at kN cP;have my:=hid hk;have ie:((ns++Ak ns.length x)++Ak (ns++Ak ns.length x).length y).length+1<=b':=by have:=HI.out.sz;rw[Bv,Bv];omega
     have bH:=hid (B7 g w7 ts b' false _ _ tv kM 8 ((n1:Int)-1) 0 [] bf ie);rw[show str []= .string ⟨#[]⟩ from rfl,GS (by decide)]at bH;obtain⟨n2,hn2⟩:∃n2,n2=((ns++Ak ns.length x)++Ak (ns++Ak ns.length x).length y).length:=⟨_,rfl⟩;rw[<-hn2]at bH;have ez:=hid hn2;obtain⟨⟨k0,k1,k2,k3,k4⟩,⟨f1,f2,f3,f4⟩,jG⟩:=bf.blk.five';clear aw hr bf hk dy hn2 ie;go_wp2_with fail;refine bH.out.mono ?_
     rintro e w8 ⟨qU,rfl,eM,cJ⟩;have HF:Hid (LoR g ts tv ns nv lg w C op [42] [47] 8 9 a b' w8):=hid (.inr ⟨od-1,.bin 8 x y,qU,HI.out.next mD.out kN cJ i6.out ez.out iQ.out my.out eM⟩);clear eM cJ;go_wp2_with fail
     go_roundg (ts.length-b')
     case rel=>exact⟨b',rfl,HF.out⟩
     case measure=>rw[jb.out];omega
theorem Q9(g:Nat)(ts:List Tok)(tv:Value)(jp:∀t∈ts,Cz t)(f:Nat):∀a,ts.length<a+f->SI g ts tv f a:=by
 induction f with
 |zero=>intro a ha w ns lg nv h;have:=h.le;omega
 |succ f ih=>
  intro a ha w ns lg nv h;have aT:Hid (∀a',a<=a'->∀w ns lg nv,RdR g w ts a' false ns lg tv nv->Calls Tryz.prog 128 #[.pointer (some ⟨g,0,none⟩)] w (Aw g ts tv ns nv lg (FT (Bh ts f) ts a') w)):=
   hid (fun a' ha w ns lg nv h=>K3 g ts tv f a' jp (fun b hb=>ih b (by omega)) w ns lg nv h)
  have HG:=hid (Jj (DQ ts f));obtain⟨C,hC⟩:∃C,CZ (FT (Bh ts f) ts) ts [43] [45] 6 7 a=C:=⟨_,rfl⟩;rw[show Bh ts (f+1) a=CZ (FT (Bh ts f) ts) ts [43] [45] 6 7 a from rfl,hC];generalize FT (Bh ts f) ts=op at *;clear ih jp ha;have iu:=hid (fun W a bad ns lg nv h=>CL g W ts a bad ns lg tv nv [43] h);have gF:=hid (fun W a bad ns lg nv h=>CL g W ts a bad ns lg tv nv [45] h);rw[show str [43]= .string ⟨#[43]⟩ from rfl]at iu;rw[show str [45]= .string ⟨#[45]⟩ from rfl]at gF;have cp:=h.le;have ft:=h.max;have eX:=h.few;have HC:Hid (∀r,op a=r->C=match r with|(none,b)=>(none,b)|(some x,b)=>BC op ts [43] [45] 6 7 ts.length x b):=hid (fun r hr=>by rw[<-hC];unfold CZ;rw[hr]<;>(obtain⟨_|x,b⟩:=r<;>rfl));have hga:=HG.out a cp;have HO:=hid (aT.out a (Nat.le_refl _) w ns lg nv h);clear h hC;go_enter Tryz.func66,Tryz.ntmps66;go_wp2_with fail;refine HO.out.mono ?_
  intro e w3 aw;have hst:e= .returned (.tuple #[])/\∃b,LoR g ts tv ns nv lg w C op [43] [45] 6 7 a b w3:=by
   obtain⟨r,hr⟩:∃r,op a=r:=⟨_,rfl⟩;have hC:=HC.out r hr;rw[hr]at hga;obtain⟨_|x,b⟩:=r
   ·obtain⟨rfl,bL,kt,kv,bf,hk⟩:=aw.none_ hr;exact⟨rfl,b,.inl ⟨hC,bL,kt,kv,bf,hk⟩⟩
   ·obtain⟨rfl,bL,bf,hk⟩:=aw.some_ hr;have jm:=hga.2.2 x rfl;have ed:=hga.1;simp only at jm ed;exact⟨rfl,b,.inr ⟨ts.length,x,bL,bf,hk,hC,by omega,ed,by omega⟩⟩
  obtain⟨rfl,b0,fC⟩:=hst;have ir:=hid fC;clear aw fC hga HO HC;go_wp2_with fail
  go_loopg [] (ts.length-b0) (fun gh wr=>∃b,gh=ts.length-b/\LoR g ts tv ns nv lg w C op [43] [45] 6 7 a b wr)
  case atStart=>exact⟨b0,rfl,ir.out⟩
  case round=>
   obtain⟨b,jn,⟨hcn,bL,kt,kv,bf,vd⟩|⟨od,x,bL,a5⟩⟩:=hrel
   ·have HE:=hid (And.intro vd bf);have WD:=hid hcn;have ai:=hid (iu.out wr b true kt kv bL bf);simp only[Bool.not_true,Bool.false_and]at ai;clear jn hcn bf vd ir;go_wp2_with fail;refine ai.out.mono ?_
    rintro e w4 ⟨rfl,hd⟩;have eJ:=hid (And.intro (HE.out.1.trans (KR.of_ext hd.ext)) (HE.out.2.keep hd.ext));have a6:=hid (gF.out w4 b true kt kv bL eJ.out.2);simp only[Bool.not_true,Bool.false_and]at a6;clear hd;go_wp2_with fail;refine a6.out.mono ?_
    rintro e w5 ⟨rfl,hd⟩;have jd:=hid (And.intro (eJ.out.1.trans (KR.of_ext hd.ext)) (eJ.out.2.keep hd.ext));clear hd;go_wp2_with fail
    (try simp only[Exit.inBlock,Exit.then])
    first
     |refine bodyPost_ret (results_none rfl _ _ _) rfl ?_
     |refine bodyPost_end (results_none rfl _ _ _) rfl ?_
    exact Aw.mkN WD.out jd.out.1 jd.out.2
   ·have jb:=hid jn;have HI:=hid a5;have ar:=hid (iu.out wr b false _ _ bL a5.rd);simp only[Bool.not_false,Bool.true_and]at ar;have eP:=a5.rd.le;have zP:=a5.fuel;clear jn a5 ir;obtain⟨u1,dS⟩:∃u,isS ts b [43]=u:=⟨_,rfl⟩;rw[dS]at ar;cases u1
    ·go_wp2_with fail;refine ar.out.mono ?_
     rintro e xS ⟨rfl,hd⟩;have gE:=hid (KR.of_ext (g:=g) (nv:=bL) hd.ext);have eI:=hid (HI.out.rd.keep hd.ext);have aI:=hid (gF.out xS b false _ _ bL eI.out);simp only[Bool.not_false,Bool.true_and]at aI;clear hd;obtain⟨u2,dF⟩:∃u,isS ts b [45]=u:=⟨_,rfl⟩;rw[dF]at aI;cases u2
     ·have Wz:Hid (C=(some x,b)):=hid (by rw[HI.out.eq,GQ od dS dF]);go_wp2_with fail;refine aI.out.mono ?_
      rintro e w4 ⟨rfl,hd⟩;have HE:=hid (And.intro ((HI.out.kr.trans gE.out).trans (KR.of_ext hd.ext)) (eI.out.keep hd.ext));clear hd;go_wp2_with fail
      (try simp only[Exit.inBlock,Exit.then])
      first
       |refine bodyPost_ret (results_none rfl _ _ _) rfl ?_
       |refine bodyPost_end (results_none rfl _ _ _) rfl ?_
      exact Aw.mkS Wz.out HE.out.1 HE.out.2
     ·have hU:=Cl dF;have uw:IntKind.i64.wrap ((b:Int)+1)=(b:Int)+1:=IntWalk.i64_in _ (by omega);go_wp2_with fail;refine aI.out.mono ?_
      rintro e w4 ⟨rfl,hd⟩;have i9:=hid (gE.out.trans (KR.of_ext hd.ext));have dC:=hid (eI.out.keep hd.ext);have bw:=hid (gF.out w4 b false _ _ bL dC.out);simp only[Bool.not_false,Bool.true_and]at bw;rw[dF]at bw;clear hd;go_wp2_with fail;refine bw.out.mono ?_
      rintro e w5 ⟨rfl,hd⟩;have cT:=dC.out.keep hd.ext;have cX:=hid cT;have fc:=hid (i9.out.trans (KR.of_ext hd.ext));obtain⟨A2,c2,rfl⟩:=cT.row.shape;obtain⟨n1,du⟩:∃n1,n1=(ns++Ak ns.length x).length:=⟨_,rfl⟩;obtain⟨⟨k0,k1,k2,k3,k4⟩,⟨f1,f2,f3,f4⟩,vm⟩:=cT.blk.five';have kO:1<=n1:=by rw[du,Bv];have:=x.size_pos;omega
      have nP:n1<=b:=by rw[du];exact cT.few
      rw[<-du]at k3;have i6:=hid du;have tM:IntKind.i64.wrap ((n1:Int)-1)=(n1:Int)-1:=IntWalk.i64_in _ (by omega);clear hd cT du;go_upto_region 7 with fail;have hst:=cX.out.stepR hU;obtain⟨w6,jg⟩:∃w6,w6=w5.setCell ⟨g,1,none⟩ (.int .i64 ((b:Int)+1)):=⟨_,rfl⟩;rw[<-jg]at hst ⊢;have iQ:=hid (fc.out.trans hst.2);have d9:=hid (aT.out (b+1) (by have:=HI.out.lo;omega) w6 _ _ _ hst.1);have dy:=HG.out (b+1) hU;obtain⟨r,hr⟩:∃r,op (b+1)=r:=⟨_,rfl⟩;have mD:Hid (C=Hr op ts [43] [45] 6 7 (od-1) 7 x r):=hid (by rw[HI.out.eq,Ir (by omega) dS dF,hr]);rw[hr]at dy;clear hst jg k0 k1 k2 k3 k4 f1 f2 f3 f4;go_wp2_with fail;refine d9.out.mono ?_
      intro e w7 aw;obtain⟨_|y,b'⟩:=r
      ·obtain⟨rfl,kM,qV,qX,bf,hk⟩:=aw.none_ hr;have ed:=dy.1;simp only at ed;have cP:=dy.2.1;simp only at cP;have HF:Hid (LoR g ts tv ns nv lg w C op [43] [45] 6 7 a b' w7):=hid (.inl ⟨mD.out,kM,qV,qX,bf,(HI.out.kr.trans iQ.out).trans hk⟩);obtain⟨⟨k0,k1,k2,k3,k4⟩,⟨f1,f2,f3,f4⟩,jG⟩:=bf.blk.five';clear aw hr bf hk dy;go_wp2_with fail
       go_roundg (ts.length-b')
       case rel=>exact⟨b',rfl,HF.out⟩
       case measure=>rw[jb.out];omega
      ·obtain⟨rfl,kM,bf,hk⟩:=aw.some_ hr;have kN:=dy.2.2 y rfl;have cP:=dy.2.1;simp only at kN cP;have my:=hid hk;have ie:((ns++Ak ns.length x)++Ak (ns++Ak ns.length x).length y).length+1<=b':=by have:=HI.out.sz;rw[Bv,Bv];omega
       have bH:=hid (B7 g w7 ts b' false _ _ tv kM 7 ((n1:Int)-1) 0 [] bf ie);rw[show str []= .string ⟨#[]⟩ from rfl,GS (by decide)]at bH;obtain⟨n2,hn2⟩:∃n2,n2=((ns++Ak ns.length x)++Ak (ns++Ak ns.length x).length y).length:=⟨_,rfl⟩;rw[<-hn2]at bH;have ez:=hid hn2;obtain⟨⟨k0,k1,k2,k3,k4⟩,⟨f1,f2,f3,f4⟩,jG⟩:=bf.blk.five';clear aw hr bf hk dy hn2 ie;go_wp2_with fail;refine bH.out.mono ?_
       rintro e w8 ⟨qU,rfl,eM,cJ⟩;have HF:Hid (LoR g ts tv ns nv lg w C op [43] [45] 6 7 a b' w8):=hid (.inr ⟨od-1,.bin 7 x y,qU,HI.out.next mD.out kN cJ i6.out ez.out iQ.out my.out eM⟩);clear eM cJ;go_wp2_with fail
       go_roundg (ts.length-b')
       case rel=>exact⟨b',rfl,HF.out⟩
       case measure=>rw[jb.out];omega
    ·have hU:=Cl dS;have uw:IntKind.i64.wrap ((b:Int)+1)=(b:Int)+1:=IntWalk.i64_in _ (by omega);have dF:=OE (d:=[45]) dS (by decide);go_wp2_with fail;refine ar.out.mono ?_
     rintro e w4 ⟨rfl,hd⟩;have i9:=hid (KR.of_ext (g:=g) (nv:=bL) hd.ext);have dC:=hid (HI.out.rd.keep hd.ext);have bw:=hid (gF.out w4 b false _ _ bL dC.out);simp only[Bool.not_false,Bool.true_and]at bw;rw[dF]at bw;clear hd;go_wp2_with fail;refine bw.out.mono ?_
     rintro e w5 ⟨rfl,hd⟩;have cT:=dC.out.keep hd.ext;have cX:=hid cT;have fc:=hid (i9.out.trans (KR.of_ext hd.ext));obtain⟨A2,c2,rfl⟩:=cT.row.shape;obtain⟨n1,du⟩:∃n1,n1=(ns++Ak ns.length x).length:=⟨_,rfl⟩;obtain⟨⟨k0,k1,k2,k3,k4⟩,⟨f1,f2,f3,f4⟩,vm⟩:=cT.blk.five';have kO:1<=n1:=by rw[du,Bv];have:=x.size_pos;omega
     have nP:n1<=b:=by rw[du];exact cT.few
     rw[<-du]at k3;have i6:=hid du;have tM:IntKind.i64.wrap ((n1:Int)-1)=(n1:Int)-1:=IntWalk.i64_in _ (by omega);clear hd cT du;go_upto_region 7 with fail;have hst:=cX.out.stepR hU;obtain⟨w6,jg⟩:∃w6,w6=w5.setCell ⟨g,1,none⟩ (.int .i64 ((b:Int)+1)):=⟨_,rfl⟩;rw[<-jg]at hst ⊢;have iQ:=hid (fc.out.trans hst.2);have d9:=hid (aT.out (b+1) (by have:=HI.out.lo;omega) w6 _ _ _ hst.1);have dy:=HG.out (b+1) hU;obtain⟨r,hr⟩:∃r,op (b+1)=r:=⟨_,rfl⟩;have mD:Hid (C=Hr op ts [43] [45] 6 7 (od-1) 6 x r):=hid (by rw[HI.out.eq,It (by omega) dS,hr]);rw[hr]at dy;clear hst jg k0 k1 k2 k3 k4 f1 f2 f3 f4;go_wp2_with fail;refine d9.out.mono ?_
     intro e w7 aw;obtain⟨_|y,b'⟩:=r
     ·obtain⟨rfl,kM,qV,qX,bf,hk⟩:=aw.none_ hr;have ed:=dy.1;simp only at ed;have cP:=dy.2.1;simp only at cP;have HF:Hid (LoR g ts tv ns nv lg w C op [43] [45] 6 7 a b' w7):=hid (.inl ⟨mD.out,kM,qV,qX,bf,(HI.out.kr.trans iQ.out).trans hk⟩);obtain⟨⟨k0,k1,k2,k3,k4⟩,⟨f1,f2,f3,f4⟩,jG⟩:=bf.blk.five';clear aw hr bf hk dy;go_wp2_with fail
      go_roundg (ts.length-b')
      case rel=>exact⟨b',rfl,HF.out⟩
      case measure=>rw[jb.out];omega
     ·obtain⟨rfl,kM,bf,hk⟩:=aw.some_ hr;have kN:=dy.2.2 y rfl;have cP:=dy.2.1;simp only at kN cP;have my:=hid hk;have ie:((ns++Ak ns.length x)++Ak (ns++Ak ns.length x).length y).length+1<=b':=by have:=HI.out.sz;rw[Bv,Bv];omega
      have bH:=hid (B7 g w7 ts b' false _ _ tv kM 6 ((n1:Int)-1) 0 [] bf ie);rw[show str []= .string ⟨#[]⟩ from rfl,GS (by decide)]at bH;obtain⟨n2,hn2⟩:∃n2,n2=((ns++Ak ns.length x)++Ak (ns++Ak ns.length x).length y).length:=⟨_,rfl⟩;rw[<-hn2]at bH;have ez:=hid hn2;obtain⟨⟨k0,k1,k2,k3,k4⟩,⟨f1,f2,f3,f4⟩,jG⟩:=bf.blk.five';clear aw hr bf hk dy hn2 ie;go_wp2_with fail;refine bH.out.mono ?_
      rintro e w8 ⟨qU,rfl,eM,cJ⟩;have HF:Hid (LoR g ts tv ns nv lg w C op [43] [45] 6 7 a b' w8):=hid (.inr ⟨od-1,.bin 6 x y,qU,HI.out.next mD.out kN cJ i6.out ez.out iQ.out my.out eM⟩);clear eM cJ;go_wp2_with fail
      go_roundg (ts.length-b')
      case rel=>exact⟨b',rfl,HF.out⟩
      case measure=>rw[jb.out];omega
end Big
end Go.Proofs.YtkoaogkknnelaaaGreatDoor
