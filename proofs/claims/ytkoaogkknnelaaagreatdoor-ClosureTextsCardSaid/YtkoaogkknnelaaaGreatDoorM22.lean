import Derived.Test.YtkoaogkknnelaaaGreatDoorM21
set_option linter.unusedVariables false
set_option linter.unusedSimpArgs false
set_option maxHeartbeats 2000000
set_option maxRecDepth 100000
namespace Go.Proofs.YtkoaogkknnelaaaGreatDoor
namespace Big
open Lib renaming hid → J
open Go.RowKit
section
variable {p:Nat->Option Ex × Nat} {ts:List Tok} {a b n:Nat} {x:Ex}
theorem Mz(h:CZ p ts a=(none,b)):AQ p ts a=(none,b):=by unfold AQ;rw[h]
theorem LA(h:CZ p ts a=(some x,b))(h1:isS ts b [94]=false):AQ p ts a=(some x,b):=TJ h h1
theorem Ob(h:CZ p ts a=(some x,b))(h1:isS ts b [94]=true)(h2:isS ts (b+1) [45]=true)(h3:EX ts (b+2)=some n):AQ p ts a=(some (.un 10 (-(n:Int)) x),b+3):=by
 unfold AQ;rw[h];simp only;rw[if_pos h1,if_pos h2,h3]
theorem Kj(h:CZ p ts a=(some x,b))(h1:isS ts b [94]=true)(h2:isS ts (b+1) [45]=true)(h3:EX ts (b+2)=none):AQ p ts a=(none,b+2):=by
 unfold AQ;rw[h];simp only;rw[if_pos h1,if_pos h2,h3]
theorem Oa(h:CZ p ts a=(some x,b))(h1:isS ts b [94]=true)(h2:isS ts (b+1) [45]=false)(h3:EX ts (b+1)=some n):AQ p ts a=(some (.un 10 (n:Int) x),b+2):=by
 unfold AQ;rw[h];simp only;rw[if_pos h1,if_neg (by rw[h2];simp),h3]
theorem Ki(h:CZ p ts a=(some x,b))(h1:isS ts b [94]=true)(h2:isS ts (b+1) [45]=false)(h3:EX ts (b+1)=none):AQ p ts a=(none,b+1):=by
 unfold AQ;rw[h];simp only;rw[if_pos h1,if_neg (by rw[h2];simp),h3]
theorem B8(off k:Nat)(z:Int):Ag off (.un k z x)=Ag off x++[⟨(k:Int),((off+x.size-1:Nat):Int),0,z,[]⟩]:=rfl
end
section
variable {p:Nat->Option Ex × Nat} {ts:List Tok} {a b:Nat} {x:Ex}
theorem Um(h:isS ts a [45]=false):Ba ts ts.length a=0:=C2 _ h
theorem TS(h:isS ts a [45]=true):Ba ts ts.length a=Ba ts ts.length (a+1)+1:=by
 have hl:=Ct h;obtain⟨n,hn⟩:∃n,ts.length=n+1:=⟨ts.length-1,by omega⟩;rw[hn,Ba,if_pos h,<-Kl (n+1) n (a+1) (by omega) (by omega)]
end
structure RdR (g:Nat) (w:World) (ts:List Tok) (a:Nat) (bad:Bool) (ns:List Nd) (lg:Bool) (tv nv:Value):Prop where
 blk:Blk w g 120 #[tv,.int .i64 (a:Int),.bool bad,nv,.bool lg]
 row:Ai (g+1) w nv ns
 tok:IJ g w tv ts
 few:ns.length<=a
 le:a<=ts.length
 max:ts.length<=1000000
section
variable {g:Nat} {w w':World} {ts:List Tok} {a:Nat} {bad lg:Bool} {ns:List Nd} {tv nv:Value}
theorem RdR.keep(h:RdR g w ts a bad ns lg tv nv)(hx:Ext w w'):RdR g w' ts a bad ns lg tv nv:=
 ⟨h.blk.ext hx,h.row.ext hx,h.tok.below (Below.mono hx (qaR h.blk.lt)),h.few,h.le,h.max⟩
theorem Blk.five'{t:TypeId}{c1 c2 c3 c4 c5:Value}(h:Blk w g t #[c1,c2,c3,c4,c5]):(w.cell? ⟨g,0,none⟩=some c1/\w.cell? ⟨g,1,none⟩=some c2/\w.cell? ⟨g,2,none⟩=some c3/\w.cell? ⟨g,3,none⟩=some c4/\w.cell? ⟨g,4,none⟩=some c5)/\(w.frozen? ⟨g,1,none⟩=false/\w.frozen? ⟨g,2,none⟩=false/\w.frozen? ⟨g,3,none⟩=false/\w.frozen? ⟨g,4,none⟩=false)/\g<w.heap.size:=
 ⟨⟨h.cell 0,h.cell 1,h.cell 2,h.cell 3,h.cell 4⟩,⟨h.frozen 1,h.frozen 2,h.frozen 3,h.frozen 4⟩,h.lt⟩
theorem KR.set(h:Below g w w)(o:Nat)(u:Value):KR g nv nv w (w.setCell ⟨g,o,none⟩ u):=by
 have hb:Below g w (w.setCell ⟨g,o,none⟩ u):=Below.setCell h (p:=⟨g,o,none⟩) (qad _) _;exact⟨hb.os,hb.tape,hb.output,hb.size,fun k _ hk _=>Below.heap_setCell _ _ _ k hk,fun _ hj=> .inl hj⟩
theorem RdR.stepR(h:RdR g w ts a bad ns lg tv nv)(ha:a<ts.length):RdR g (w.setCell ⟨g,1,none⟩ (.int .i64 ((a:Int)+1))) ts (a+1) bad ns lg tv nv/\KR g nv nv w (w.setCell ⟨g,1,none⟩ (.int .i64 ((a:Int)+1))):=by
 have hk:KR g nv nv w (w.setCell ⟨g,1,none⟩ (.int .i64 ((a:Int)+1))):=KR.set (Below.refl g w) 1 _;have hb:Below g w (w.setCell ⟨g,1,none⟩ (.int .i64 ((a:Int)+1))):=Below.setCell (Below.refl g w) (p:=⟨g,1,none⟩) (qad _) _;refine⟨⟨?_,h.row.kept (fun k hk _=>Below.heap_setCell _ _ _ k (by show k≠g;omega)),h.tok.below hb,by have:=h.few;omega,ha,h.max⟩,hk⟩;have h3:=h.blk.set_ 1 (.int .i64 ((a:Int)+1));rw[qcy];exact h3
theorem RdR.fail(h:RdR g w ts a bad ns lg tv nv):RdR g (w.setCell ⟨g,2,none⟩ (.bool true)) ts a true ns lg tv nv/\KR g nv nv w (w.setCell ⟨g,2,none⟩ (.bool true)):=by
 have hk:KR g nv nv w (w.setCell ⟨g,2,none⟩ (.bool true)):=KR.set (Below.refl g w) 2 _;have hb:Below g w (w.setCell ⟨g,2,none⟩ (.bool true)):=Below.setCell (Below.refl g w) (p:=⟨g,2,none⟩) (qad _) _;exact⟨⟨h.blk.set_ 2 (.bool true),h.row.kept (fun k hk _=>Below.heap_setCell _ _ _ k (by show k≠g;omega)),h.tok.below hb,h.few,h.le,h.max⟩,hk⟩
theorem RdR.large(h:RdR g w ts a bad ns lg tv nv)(l2:Bool):RdR g (w.setCell ⟨g,4,none⟩ (.bool l2)) ts a bad ns l2 tv nv/\KR g nv nv w (w.setCell ⟨g,4,none⟩ (.bool l2)):=by
 have hk:KR g nv nv w (w.setCell ⟨g,4,none⟩ (.bool l2)):=KR.set (Below.refl g w) 4 _;have hb:Below g w (w.setCell ⟨g,4,none⟩ (.bool l2)):=Below.setCell (Below.refl g w) (p:=⟨g,4,none⟩) (qad _) _;exact⟨⟨h.blk.set_ 4 (.bool l2),h.row.kept (fun k hk _=>Below.heap_setCell _ _ _ k (by show k≠g;omega)),h.tok.below hb,h.few,h.le,h.max⟩,hk⟩
end
theorem CU(g:Nat)(w:World)(ts:List Tok)(a:Nat)(bad:Bool)(ns:List Nd)(lg:Bool)(tv nv:Value)(c:List UInt8)(h:RdR g w ts a bad ns lg tv nv):
  Calls Tryz.prog 129 #[.pointer (some ⟨g,0,none⟩),str c] w fun e w'=>e= .returned (.bool (!bad && isS ts a c))/\Dr w w':=by
 have hb:=h.blk;have hn:=h.row;obtain⟨A,c0,rfl,aa⟩:=h.tok;obtain⟨A2,c2,rfl⟩:=hn.shape;have hle:=h.le;have fv:=h.max;obtain⟨⟨k0,k1,k2,k3,k4⟩,_,hg⟩:=hb.five';clear hb hn h;cases bad
 ·obtain⟨n,iz⟩:∃n,n=ts.length:=⟨_,rfl⟩;rw[<-iz]at k0 hle fv;have i7:=J iz;clear iz;rcases qam a n with hlt|fh
  ·have hlt2:a<ts.length:=by rw[<-i7.o];exact hlt
   obtain⟨b,rfl,_,_,hc⟩:=aa (by omega);obtain⟨q0,q1,q2⟩:=hc a hlt2;have hI:isS ts a c=((ts[a].kind == 3) && (ts[a].text == c)):=by
    unfold isS;rw[qaa hlt2]
   have HI:=J hI;clear hI aa hc;generalize ts[a].kind=tk at *;generalize ts[a].text=tx at *;generalize isS ts a c=r at *;have z1:decide (a<n)=true:=decide_eq_true hlt;cases hk:(tk == 3)
   ·have hk2:((tk:Int) == 3)=false:=by
     rw[beq_eq_false_iff_ne]at hk ⊢;omega
    rw[hk]at HI;clear hk;go_enter Tryz.func129,Tryz.ntmps129;go_wp2_with fail;go_quiet (fail);go_wp2_with fail;go_ret;exact⟨by rw[HI.o];rfl,(Dr.refl w).drewN _⟩
   ·have hk2:((tk:Int) == 3)=true:=by
     rw[beq_iff_eq]at hk ⊢;omega
    rw[hk]at HI;clear hk;go_enter Tryz.func129,Tryz.ntmps129;go_wp2_with fail;go_quiet (fail);go_wp2_with fail;go_ret;exact⟨by rw[HI.o];rfl,(Dr.refl w).drewN _⟩
  ·have HI:Hid (isS ts a c=false):=J (by
    unfold isS;rw[qaz (by rw[<-i7.o];exact fh)])
   have z1:decide (a<n)=false:=decide_eq_false (by omega);have z2:¬(a:Int)<(n:Int):=by omega
   clear aa;go_enter Tryz.func129,Tryz.ntmps129;go_wp2_with fail;go_quiet (fail);go_wp2_with fail;go_ret;exact⟨by rw[HI.o];rfl,(Dr.refl w).drewN _⟩
 ·clear aa;go_enter Tryz.func129,Tryz.ntmps129;go_wp2_with fail;go_quiet (fail);go_wp2_with fail;go_ret;exact⟨rfl,(Dr.refl w).drewN _⟩
theorem DD(g:Nat)(w:World)(ts:List Tok)(a:Nat)(bad:Bool)(ns:List Nd)(lg:Bool)(tv nv:Value)(c:List UInt8)(h:RdR g w ts a bad ns lg tv nv):
  Calls Tryz.prog 268 #[.pointer (some ⟨g,0,none⟩),str c] w fun e w'=>e= .returned (.tuple #[])/\KR g nv nv w w'/\RdR g w' ts (if (!bad && isS ts a c)=true then a+1 else a) (!(!bad && isS ts a c)) ns lg tv nv:=by
 have HS:=J (CU g w ts a bad ns lg tv nv c h);have H:=J h;have fv:=h.max;have hle:=h.le;cases hs:(!bad && isS ts a c)
 ·rw[hs]at HS;clear h hs;go_enter Tryz.func268,Tryz.ntmps268;go_wp2_with fail;refine HS.o.mono ?_
  rintro e w1 ⟨rfl,hd⟩;have hr:=H.o.keep hd.ext;have HR:=J hr;have HD:=J hd;obtain⟨⟨k0,k1,k2,k3,k4⟩,⟨f1,f2,f3,f4⟩,hg⟩:=hr.blk.five';clear hd hr;go_wp2_with fail;go_end0;have h3:=HR.o.fail;exact⟨rfl,(KR.of_ext HD.o.ext).trans h3.2,h3.1⟩
 ·rw[hs]at HS;have hlt:=Ct (qbu.1 hs).2;have VR:bad=false:=by have:=(qbu.1 hs).1;simpa using this
  subst VR;have aB:IntKind.i64.wrap ((a:Int)+1)=(a:Int)+1:=IntWalk.i64_in _ (by omega);clear h hs;go_enter Tryz.func268,Tryz.ntmps268;go_wp2_with fail;refine HS.o.mono ?_
  rintro e w1 ⟨rfl,hd⟩;have hr:=H.o.keep hd.ext;have HR:=J hr;have HD:=J hd;obtain⟨⟨k0,k1,k2,k3,k4⟩,⟨f1,f2,f3,f4⟩,hg⟩:=hr.blk.five';clear hd hr;go_wp2_with fail
  (try simp only[Exit.inBlock,Exit.then])
  refine bodyPost_ret (results_none rfl _ _ _) rfl ?_
  have h3:=HR.o.stepR hlt;exact⟨rfl,(KR.of_ext HD.o.ext).trans h3.2,h3.1⟩
def EI(k first z:Int)(len:Nat)(t:List UInt8):Nd:=if Al k=1 then ⟨k,(len:Int)-1,0,z,t⟩ else if Al k=2 then ⟨k,first,(len:Int)-1,z,t⟩ else ⟨k,0,0,z,t⟩
theorem Ch(g:Nat)(w:World)(ts:List Tok)(a:Nat)(bad:Bool)(ns:List Nd)(lg:Bool)(tv nv:Value)(k first z:Int)(t:List UInt8)(h:RdR g w ts a bad ns lg tv nv)(hf:ns.length+1<=a):
  Calls Tryz.prog 130 #[.pointer (some ⟨g,0,none⟩),.int .i64 k,.int .i64 first,.int .i64 z,str t] w fun e w'=>∃nv',e= .returned (.tuple #[])/\KR g nv nv' w w'/\RdR g w' ts a bad (ns++[EI k first z ns.length t]) lg tv nv':=by
 have ax:=h.blk;have au:=h.row;have HT:=J h.tok;have hle:=h.le;have fv:=h.max;have HB:=J ax;have HR:=J au;obtain⟨A,c,rfl⟩:=au.shape;have ea:=ax.lt;obtain⟨i0,hi,aR,hz1,aU⟩:=info_parts BI;obtain⟨s,hs⟩:∃s:ByteArray,s=⟨t.toArray⟩:=⟨_,rfl⟩;have i5:Hid (str t= .string s):=J (by rw[hs];rfl);rw[i5.o];clear hs h au;have az:=J (fun W=>Bf W k);obtain⟨⟨k0,k1,k2,k3,k4⟩,⟨f1,f2,f3,f4⟩,_⟩:=ax.five';clear ax;obtain⟨n,hn⟩:∃n,n=ns.length:=⟨_,rfl⟩;rw[<-hn]at hf k3 ⊢;have HN:=J hn;clear hn;have aB:IntKind.i64.wrap ((n:Int)-1)=(n:Int)-1:=IntWalk.i64_in _ (by omega);have key:=FO k;have wE:∀q:Int,¬q=1->(q == 1)=false:=fun q h=>by rw[beq_eq_false_iff_ne];exact h
 clear wE;have h3:(Al k≠1/\Al k≠2)\/Al k=1\/Al k=2:=by omega
 rcases h3 with ⟨wu,wt⟩|ay|ay
 ·have b1:(Al k == 1)=false:=by rw[beq_eq_false_iff_ne];exact wu
  have b2:(Al k == 2)=false:=by rw[beq_eq_false_iff_ne];exact wt
  have yn:Hid (EI k first z ns.length t=⟨k,0,0,z,t⟩):=J (by unfold EI;rw[if_neg wu,if_neg wt]);generalize Al k=op at *;go_enter Tryz.func130,Tryz.ntmps130;go_wp2_with fail;refine(az.o _).mono ?_
  rintro e w2 ⟨rfl,rfl⟩;obtain⟨w0,dZ⟩:∃w0,w0=w.alloc (.cells #[.int .i64 k,.int .i64 0,.int .i64 0,.int .i64 z,.string s] 95):=⟨_,rfl⟩;have hx0:Ext w w0:=by rw[dZ];exact((Ext.refl w).alloc _)
  have oW:Blk w0 w.heap.size 95 #[.int .i64 k,.int .i64 0,.int .i64 0,.int .i64 z,.string s]:=by rw[dZ];exact(Blk.new w _ _)
  have hsz:w0.heap.size=w.heap.size+1:=by rw[dZ];simp
  have fN:=J (HB.o.ext hx0);have qY:=J (HR.o.ext hx0);have eo:=J hx0;have ak:ns.length=n:=HN.o.symm;have r8:Hid (w.ownsRow (g+1) 95 5 (.slice A n c) n (AN ns)):=J (by have h:=HR.o;unfold Ai at h;rw[ak]at h;exact h);have hne:∀q,(Value.slice A n c).ownBlock=some q->g≠q:=fun q hq=>by have:=Ay r8.o q hq;omega
  have jJ:Hid (∀w':World,(w0.alloc (.cells #[.int .i64 k,.int .i64 0,.int .i64 0,.int .i64 z,.string s] 95)).drew.grownBy w' (Value.slice A n c).ownBlock->Blk w' g 120 #[tv,.int .i64 (a:Int),.bool bad,.slice A n c,.bool lg]/\(Below g w0 w'/\∀q,q<w.heap.size->(Value.slice A n c).ownBlock≠some q->w'.heap[q]? =w.heap[q]?)):=J (fun w' hgr=>by
   refine⟨?_,?_⟩
   ·have h1:=hgr.block g (show g<(w0.alloc (.cells #[.int .i64 k,.int .i64 0,.int .i64 0,.int .i64 z,.string s] 95)).drew.heap.size by simp;omega) (fun e=>hne g e.symm rfl);have h2:=(fN.o.alloc (.cells #[.int .i64 k,.int .i64 0,.int .i64 0,.int .i64 z,.string s] 95)).drew;rw[ak]at h2;exact h1.trans h2
   ·refine⟨(((Below.refl g w0).alloc (by omega) _).drew).grown hgr (by simp;omega) (fun q hq=>by have:=Ay r8.o q hq;omega),fun q hq hne2=> ?_⟩;have h1:=hgr.block q (show q<(w0.alloc (.cells #[.int .i64 k,.int .i64 0,.int .i64 0,.int .i64 z,.string s] 95)).drew.heap.size by simp;omega) (fun e=>hne2 e.symm);rw[h1];exact(Below.heap_alloc w0 _ q (by omega)).trans (hx0.block q hq))
  have gB:Hid (∀(j:Nat) (u:Value),[Value.int .i64 k,Value.int .i64 0,Value.int .i64 0,Value.int .i64 z,Value.string s][j]? =some u->(w0.alloc (.cells #[.int .i64 k,.int .i64 0,.int .i64 0,.int .i64 z,.string s] 95)).drew.cell? ((⟨w0.heap.size,0,none⟩:Addr).add j)=some u):=J (AS w0 95 [.int .i64 k,.int .i64 0,.int .i64 0,.int .i64 z,.string s]);have dt:Hid ((w0.alloc (.cells #[.int .i64 k,.int .i64 0,.int .i64 0,.int .i64 z,.string s] 95)).drew.ownsRow (g+1) 95 5 (.slice A n c) n (AN ns)):=J (by
   have h:=Ac qY.o (w':=(w0.alloc (.cells #[.int .i64 k,.int .i64 0,.int .i64 0,.int .i64 z,.string s] 95)).drew) (fun k _ hk=>Below.heap_alloc w0 _ k hk);rw[ak]at h;exact h)
  have aA:Hid (n+1<=maxLen):=J (by unfold maxLen;omega);have aF:Hid ((n+1)*48<=140737488355328):=J (by omega);have aC:Hid (g+1<=(w0.alloc (.cells #[.int .i64 k,.int .i64 0,.int .i64 0,.int .i64 z,.string s] 95)).drew.heap.size):=J (by simp;omega);have qW:Hid (ndC (EI k first z ns.length t)=[.int .i64 k,.int .i64 0,.int .i64 0,.int .i64 z,.string s]):=J (by rw[yn.o];(try rw[ak]);simp only[ndC,i5.o]);rw[hsz]at gB;have HZ:=J dZ;have q0:=oW.five;obtain⟨⟨k0,k1,k2,k3,k4⟩,⟨f1,f2,f3,f4⟩,jR⟩:=fN.o.five';rw[ak]at k3;clear hne hx0 oW dZ ak;go_upto_region 6 with fail;rw[<-HZ.o];clear HZ
  go_region_law (refine step_append_lies _ rfl (.tmp 41) (.tmp 43) 32 rfl (g+1) 95 i0 _ 5 48 Tryz.underlying32 hi aR hz1 aU rfl (by decide) _ n (AN ns) rfl dt.o ⟨w.heap.size+1,0,none⟩ 1 1 [.int .i64 k,.int .i64 0,.int .i64 0,.int .i64 z,.string s] rfl rfl gB.o (by simp[Value.oneCell']) (by decide) aA.o aF.o aC.o _ rfl ?_;intro g' c' w' ac hgr hat hlt;have gK:=J ac;have HM:=J (jJ.o w' hgr);have fH:=J hat;clear ac hgr hat;obtain⟨⟨m0,m1,m2,m3,m4⟩,⟨n1,n2,n3,n4⟩,xc⟩:=HM.o.1.five')
  all_goals
   have en:=HM.o.1.set_ 3 (.slice (some ⟨g',0,none⟩) (n+1) c');have gS:=J ((Below.mono eo.o (qaR ea)).trans (HM.o.2.1.setCell (p:=⟨g,3,none⟩) (qad _) (.slice (some ⟨g',0,none⟩) (n+1) c')));have HF:Hid (RdR g (w'.setCell ⟨g,3,none⟩ (.slice (some ⟨g',0,none⟩) (n+1) c')) ts a bad (ns++[EI k first z ns.length t]) lg tv (.slice (some ⟨g',0,none⟩) (n+1) c')):=J ⟨en,by
     have h3:=gK.o;unfold Ai;rw[Bl,Bw,qW.o,qab,qae,<-HN.o];exact Ac h3 (fun k hk _=>Below.heap_setCell _ _ _ k (by show k≠g;omega)),HT.o.below gS.o,by rw[qab,qae,<-HN.o];exact hf,hle,fv⟩
   have sh:Hid (KR g (.slice A n c) (.slice (some ⟨g',0,none⟩) (n+1) c') w (w'.setCell ⟨g,3,none⟩ (.slice (some ⟨g',0,none⟩) (n+1) c'))):=J ⟨gS.o.os,gS.o.tape,gS.o.output,gS.o.size,fun q h1 h2 h3=>(Below.heap_setCell _ _ _ q h2).trans (HM.o.2.2 q h1 h3),fun j hj=>by
     simp only[Value.ownBlock,qaw]at hj;subst hj;rcases fH.o with h4|h4
     ·exact .inl h4
     ·right
      rw[h4];simp;omega⟩
   clear en;go_wp2_with fail;go_end0;rw[HN.o]at sh HF ⊢;exact⟨_,rfl,sh.o,HF.o⟩
 ·have yn:Hid (EI k first z ns.length t=⟨k,(ns.length:Int)-1,0,z,t⟩):=J (by unfold EI;rw[if_pos ay]);rw[ay]at az;clear ay key;go_enter Tryz.func130,Tryz.ntmps130;go_wp2_with fail;refine(az.o _).mono ?_
  rintro e w2 ⟨rfl,rfl⟩;go_upto_region 6 with fail;obtain⟨w0,dZ⟩:∃w0,w0=w.alloc (.cells #[.int .i64 k,.int .i64 ((n:Int)-1),.int .i64 0,.int .i64 z,.string s] 95):=⟨_,rfl⟩;have hx0:Ext w w0:=by rw[dZ];exact((Ext.refl w).alloc _)
  have oW:Blk w0 w.heap.size 95 #[.int .i64 k,.int .i64 ((n:Int)-1),.int .i64 0,.int .i64 z,.string s]:=by rw[dZ];exact(Blk.new w _ _)
  have hsz:w0.heap.size=w.heap.size+1:=by rw[dZ];simp
  have fN:=J (HB.o.ext hx0);have qY:=J (HR.o.ext hx0);have eo:=J hx0;have ak:ns.length=n:=HN.o.symm;have r8:Hid (w.ownsRow (g+1) 95 5 (.slice A n c) n (AN ns)):=J (by have h:=HR.o;unfold Ai at h;rw[ak]at h;exact h);have hne:∀q,(Value.slice A n c).ownBlock=some q->g≠q:=fun q hq=>by have:=Ay r8.o q hq;omega
  have jJ:Hid (∀w':World,(w0.alloc (.cells #[.int .i64 k,.int .i64 ((n:Int)-1),.int .i64 0,.int .i64 z,.string s] 95)).drew.grownBy w' (Value.slice A n c).ownBlock->Blk w' g 120 #[tv,.int .i64 (a:Int),.bool bad,.slice A n c,.bool lg]/\(Below g w0 w'/\∀q,q<w.heap.size->(Value.slice A n c).ownBlock≠some q->w'.heap[q]? =w.heap[q]?)):=J (fun w' hgr=>by
   refine⟨?_,?_⟩
   ·have h1:=hgr.block g (show g<(w0.alloc (.cells #[.int .i64 k,.int .i64 ((n:Int)-1),.int .i64 0,.int .i64 z,.string s] 95)).drew.heap.size by simp;omega) (fun e=>hne g e.symm rfl);have h2:=(fN.o.alloc (.cells #[.int .i64 k,.int .i64 ((n:Int)-1),.int .i64 0,.int .i64 z,.string s] 95)).drew;rw[ak]at h2;exact h1.trans h2
   ·refine⟨(((Below.refl g w0).alloc (by omega) _).drew).grown hgr (by simp;omega) (fun q hq=>by have:=Ay r8.o q hq;omega),fun q hq hne2=> ?_⟩;have h1:=hgr.block q (show q<(w0.alloc (.cells #[.int .i64 k,.int .i64 ((n:Int)-1),.int .i64 0,.int .i64 z,.string s] 95)).drew.heap.size by simp;omega) (fun e=>hne2 e.symm);rw[h1];exact(Below.heap_alloc w0 _ q (by omega)).trans (hx0.block q hq))
  have gB:Hid (∀(j:Nat) (u:Value),[Value.int .i64 k,Value.int .i64 ((n:Int)-1),Value.int .i64 0,Value.int .i64 z,Value.string s][j]? =some u->(w0.alloc (.cells #[.int .i64 k,.int .i64 ((n:Int)-1),.int .i64 0,.int .i64 z,.string s] 95)).drew.cell? ((⟨w0.heap.size,0,none⟩:Addr).add j)=some u):=J (AS w0 95 [.int .i64 k,.int .i64 ((n:Int)-1),.int .i64 0,.int .i64 z,.string s]);have dt:Hid ((w0.alloc (.cells #[.int .i64 k,.int .i64 ((n:Int)-1),.int .i64 0,.int .i64 z,.string s] 95)).drew.ownsRow (g+1) 95 5 (.slice A n c) n (AN ns)):=J (by
   have h:=Ac qY.o (w':=(w0.alloc (.cells #[.int .i64 k,.int .i64 ((n:Int)-1),.int .i64 0,.int .i64 z,.string s] 95)).drew) (fun k _ hk=>Below.heap_alloc w0 _ k hk);rw[ak]at h;exact h)
  have aA:Hid (n+1<=maxLen):=J (by unfold maxLen;omega);have aF:Hid ((n+1)*48<=140737488355328):=J (by omega);have aC:Hid (g+1<=(w0.alloc (.cells #[.int .i64 k,.int .i64 ((n:Int)-1),.int .i64 0,.int .i64 z,.string s] 95)).drew.heap.size):=J (by simp;omega);have qW:Hid (ndC (EI k first z ns.length t)=[.int .i64 k,.int .i64 ((n:Int)-1),.int .i64 0,.int .i64 z,.string s]):=J (by rw[yn.o];(try rw[ak]);simp only[ndC,i5.o]);rw[hsz]at gB;have HZ:=J dZ;have q0:=oW.five;obtain⟨⟨k0,k1,k2,k3,k4⟩,⟨f1,f2,f3,f4⟩,jR⟩:=fN.o.five';rw[ak]at k3;clear hne hx0 oW dZ ak;go_upto_region 6 with fail;rw[<-HZ.o];clear HZ
  go_region_law (refine step_append_lies _ rfl (.tmp 41) (.tmp 43) 32 rfl (g+1) 95 i0 _ 5 48 Tryz.underlying32 hi aR hz1 aU rfl (by decide) _ n (AN ns) rfl dt.o ⟨w.heap.size+1,0,none⟩ 1 1 [.int .i64 k,.int .i64 ((n:Int)-1),.int .i64 0,.int .i64 z,.string s] rfl rfl gB.o (by simp[Value.oneCell']) (by decide) aA.o aF.o aC.o _ rfl ?_;intro g' c' w' ac hgr hat hlt;have gK:=J ac;have HM:=J (jJ.o w' hgr);have fH:=J hat;clear ac hgr hat;obtain⟨⟨m0,m1,m2,m3,m4⟩,⟨n1,n2,n3,n4⟩,xc⟩:=HM.o.1.five')
  all_goals
   have en:=HM.o.1.set_ 3 (.slice (some ⟨g',0,none⟩) (n+1) c');have gS:=J ((Below.mono eo.o (qaR ea)).trans (HM.o.2.1.setCell (p:=⟨g,3,none⟩) (qad _) (.slice (some ⟨g',0,none⟩) (n+1) c')));have HF:Hid (RdR g (w'.setCell ⟨g,3,none⟩ (.slice (some ⟨g',0,none⟩) (n+1) c')) ts a bad (ns++[EI k first z ns.length t]) lg tv (.slice (some ⟨g',0,none⟩) (n+1) c')):=J ⟨en,by
     have h3:=gK.o;unfold Ai;rw[Bl,Bw,qW.o,qab,qae,<-HN.o];exact Ac h3 (fun k hk _=>Below.heap_setCell _ _ _ k (by show k≠g;omega)),HT.o.below gS.o,by rw[qab,qae,<-HN.o];exact hf,hle,fv⟩
   have sh:Hid (KR g (.slice A n c) (.slice (some ⟨g',0,none⟩) (n+1) c') w (w'.setCell ⟨g,3,none⟩ (.slice (some ⟨g',0,none⟩) (n+1) c'))):=J ⟨gS.o.os,gS.o.tape,gS.o.output,gS.o.size,fun q h1 h2 h3=>(Below.heap_setCell _ _ _ q h2).trans (HM.o.2.2 q h1 h3),fun j hj=>by
     simp only[Value.ownBlock,qaw]at hj;subst hj;rcases fH.o with h4|h4
     ·exact .inl h4
     ·right
      rw[h4];simp;omega⟩
   clear en;go_wp2_with fail;go_end0;rw[HN.o]at sh HF ⊢;exact⟨_,rfl,sh.o,HF.o⟩
 ·have yn:Hid (EI k first z ns.length t=⟨k,first,(ns.length:Int)-1,z,t⟩):=J (by unfold EI;rw[if_neg (by rw[ay];decide),if_pos ay]);rw[ay]at az;clear ay key;go_enter Tryz.func130,Tryz.ntmps130;go_wp2_with fail;refine(az.o _).mono ?_
  rintro e w2 ⟨rfl,rfl⟩;go_upto_region 5 with fail;go_region
  all_goals go_upto_region 6 with fail
  obtain⟨w0,dZ⟩:∃w0,w0=(w.alloc (.cells #[.int .i64 k,.int .i64 first,.int .i64 ((n:Int)-1),.int .i64 z,.string s] 95)).drew:=⟨_,rfl⟩;have hx0:Ext w w0:=by rw[dZ];exact((Ext.refl w).alloc _).drew
  have oW:Blk w0 w.heap.size 95 #[.int .i64 k,.int .i64 first,.int .i64 ((n:Int)-1),.int .i64 z,.string s]:=by rw[dZ];exact(Blk.new w _ _).drew
  have hsz:w0.heap.size=w.heap.size+1:=by rw[dZ];simp
  have fN:=J (HB.o.ext hx0);have qY:=J (HR.o.ext hx0);have eo:=J hx0;have ak:ns.length=n:=HN.o.symm;have r8:Hid (w.ownsRow (g+1) 95 5 (.slice A n c) n (AN ns)):=J (by have h:=HR.o;unfold Ai at h;rw[ak]at h;exact h);have hne:∀q,(Value.slice A n c).ownBlock=some q->g≠q:=fun q hq=>by have:=Ay r8.o q hq;omega
  have jJ:Hid (∀w':World,(w0.alloc (.cells #[.int .i64 k,.int .i64 first,.int .i64 ((n:Int)-1),.int .i64 z,.string s] 95)).drew.grownBy w' (Value.slice A n c).ownBlock->Blk w' g 120 #[tv,.int .i64 (a:Int),.bool bad,.slice A n c,.bool lg]/\(Below g w0 w'/\∀q,q<w.heap.size->(Value.slice A n c).ownBlock≠some q->w'.heap[q]? =w.heap[q]?)):=J (fun w' hgr=>by
   refine⟨?_,?_⟩
   ·have h1:=hgr.block g (show g<(w0.alloc (.cells #[.int .i64 k,.int .i64 first,.int .i64 ((n:Int)-1),.int .i64 z,.string s] 95)).drew.heap.size by simp;omega) (fun e=>hne g e.symm rfl);have h2:=(fN.o.alloc (.cells #[.int .i64 k,.int .i64 first,.int .i64 ((n:Int)-1),.int .i64 z,.string s] 95)).drew;rw[ak]at h2;exact h1.trans h2
   ·refine⟨(((Below.refl g w0).alloc (by omega) _).drew).grown hgr (by simp;omega) (fun q hq=>by have:=Ay r8.o q hq;omega),fun q hq hne2=> ?_⟩;have h1:=hgr.block q (show q<(w0.alloc (.cells #[.int .i64 k,.int .i64 first,.int .i64 ((n:Int)-1),.int .i64 z,.string s] 95)).drew.heap.size by simp;omega) (fun e=>hne2 e.symm);rw[h1];exact(Below.heap_alloc w0 _ q (by omega)).trans (hx0.block q hq))
  have gB:Hid (∀(j:Nat) (u:Value),[Value.int .i64 k,Value.int .i64 first,Value.int .i64 ((n:Int)-1),Value.int .i64 z,Value.string s][j]? =some u->(w0.alloc (.cells #[.int .i64 k,.int .i64 first,.int .i64 ((n:Int)-1),.int .i64 z,.string s] 95)).drew.cell? ((⟨w0.heap.size,0,none⟩:Addr).add j)=some u):=J (AS w0 95 [.int .i64 k,.int .i64 first,.int .i64 ((n:Int)-1),.int .i64 z,.string s]);have dt:Hid ((w0.alloc (.cells #[.int .i64 k,.int .i64 first,.int .i64 ((n:Int)-1),.int .i64 z,.string s] 95)).drew.ownsRow (g+1) 95 5 (.slice A n c) n (AN ns)):=J (by
   have h:=Ac qY.o (w':=(w0.alloc (.cells #[.int .i64 k,.int .i64 first,.int .i64 ((n:Int)-1),.int .i64 z,.string s] 95)).drew) (fun k _ hk=>Below.heap_alloc w0 _ k hk);rw[ak]at h;exact h)
  have aA:Hid (n+1<=maxLen):=J (by unfold maxLen;omega);have aF:Hid ((n+1)*48<=140737488355328):=J (by omega);have aC:Hid (g+1<=(w0.alloc (.cells #[.int .i64 k,.int .i64 first,.int .i64 ((n:Int)-1),.int .i64 z,.string s] 95)).drew.heap.size):=J (by simp;omega);have qW:Hid (ndC (EI k first z ns.length t)=[.int .i64 k,.int .i64 first,.int .i64 ((n:Int)-1),.int .i64 z,.string s]):=J (by rw[yn.o];(try rw[ak]);simp only[ndC,i5.o]);rw[hsz]at gB;have HZ:=J dZ;have q0:=oW.five;obtain⟨⟨k0,k1,k2,k3,k4⟩,⟨f1,f2,f3,f4⟩,jR⟩:=fN.o.five';rw[ak]at k3;clear hne hx0 oW dZ ak;go_upto_region 6 with fail;rw[<-HZ.o];clear HZ
  go_region_law (refine step_append_lies _ rfl (.tmp 41) (.tmp 43) 32 rfl (g+1) 95 i0 _ 5 48 Tryz.underlying32 hi aR hz1 aU rfl (by decide) _ n (AN ns) rfl dt.o ⟨w.heap.size+1,0,none⟩ 1 1 [.int .i64 k,.int .i64 first,.int .i64 ((n:Int)-1),.int .i64 z,.string s] rfl rfl gB.o (by simp[Value.oneCell']) (by decide) aA.o aF.o aC.o _ rfl ?_;intro g' c' w' ac hgr hat hlt;have gK:=J ac;have HM:=J (jJ.o w' hgr);have fH:=J hat;clear ac hgr hat;obtain⟨⟨m0,m1,m2,m3,m4⟩,⟨n1,n2,n3,n4⟩,xc⟩:=HM.o.1.five')
  all_goals
   have en:=HM.o.1.set_ 3 (.slice (some ⟨g',0,none⟩) (n+1) c');have gS:=J ((Below.mono eo.o (qaR ea)).trans (HM.o.2.1.setCell (p:=⟨g,3,none⟩) (qad _) (.slice (some ⟨g',0,none⟩) (n+1) c')));have HF:Hid (RdR g (w'.setCell ⟨g,3,none⟩ (.slice (some ⟨g',0,none⟩) (n+1) c')) ts a bad (ns++[EI k first z ns.length t]) lg tv (.slice (some ⟨g',0,none⟩) (n+1) c')):=J ⟨en,by
     have h3:=gK.o;unfold Ai;rw[Bl,Bw,qW.o,qab,qae,<-HN.o];exact Ac h3 (fun k hk _=>Below.heap_setCell _ _ _ k (by show k≠g;omega)),HT.o.below gS.o,by rw[qab,qae,<-HN.o];exact hf,hle,fv⟩
   have sh:Hid (KR g (.slice A n c) (.slice (some ⟨g',0,none⟩) (n+1) c') w (w'.setCell ⟨g,3,none⟩ (.slice (some ⟨g',0,none⟩) (n+1) c'))):=J ⟨gS.o.os,gS.o.tape,gS.o.output,gS.o.size,fun q h1 h2 h3=>(Below.heap_setCell _ _ _ q h2).trans (HM.o.2.2 q h1 h3),fun j hj=>by
     simp only[Value.ownBlock,qaw]at hj;subst hj;rcases fH.o with h4|h4
     ·exact .inl h4
     ·right
      rw[h4];simp;omega⟩
   clear en;go_wp2_with fail;go_end0;rw[HN.o]at sh HF ⊢;exact⟨_,rfl,sh.o,HF.o⟩
def S7(g:Nat)(ts:List Tok)(tv:Value)(F:FuncId):Prop:=∀w a ns lg nv,RdR g w ts a true ns lg tv nv->Calls Tryz.prog F #[.pointer (some ⟨g,0,none⟩)] w fun e w'=>e= .returned (.tuple #[])/\KR g nv nv w w'/\RdR g w' ts a true ns lg tv nv
theorem Qd(g:Nat)(ts:List Tok)(tv:Value):S7 g ts tv 240:=by
 intro w a ns lg nv h;have H:=J h;obtain⟨⟨k0,k1,k2,k3,k4⟩,⟨f1,f2,f3,f4⟩,hg⟩:=h.blk.five';clear h;go_enter Tryz.func240,Tryz.ntmps240;go_wp2_with fail;go_quiet (fail);go_wp2_with fail
 (try simp only[Exit.inBlock,Exit.then])
 refine bodyPost_ret (results_none rfl _ _ _) rfl ?_
 have h3:=(H.o.keep ((Ext.refl w).drewN nq)).fail;exact⟨rfl,(KR.of_ext ((Ext.refl w).drewN nq)).trans h3.2,h3.1⟩
theorem NW(g:Nat)(ts:List Tok)(tv:Value):S7 g ts tv 206:=by
 intro w a ns lg nv h;have eP:=J (fun W a ns lg nv h=>CU g W ts a true ns lg tv nv [94] h);rw[show str [94]= .string ⟨#[94]⟩ from rfl]at eP;simp only[qbe,qbh]at eP;have HE:Hid (KR g nv nv w w/\RdR g w ts a true ns lg tv nv):=J ⟨KR.of_ext (Ext.refl w),h⟩;clear h;go_enter Tryz.func206,Tryz.ntmps206;go_wp2_with fail;refine(Qd g ts tv _ _ _ _ _ HE.o.2).mono ?_
 rintro e w1 ⟨rfl,hk,hr⟩;have HE:=J (And.intro (HE.o.1.trans hk) hr);clear hk hr;go_wp2_with fail;refine(eP.o _ _ _ _ _ HE.o.2).mono ?_
 rintro e w2 ⟨rfl,hd⟩;have HE:=J (And.intro (HE.o.1.trans (KR.of_ext hd.ext)) (HE.o.2.keep hd.ext));clear hd;go_wp2_with fail
 (try simp only[Exit.inBlock,Exit.then])
 first
  |refine bodyPost_ret (results_none rfl _ _ _) rfl ?_
  |refine bodyPost_end (results_none rfl _ _ _) rfl ?_
 exact⟨rfl,HE.o.1,HE.o.2⟩
theorem NZ(g:Nat)(ts:List Tok)(tv:Value):S7 g ts tv 172:=by
 intro w a ns lg nv h;have eP:=J (fun W a ns lg nv h=>CU g W ts a true ns lg tv nv [45] h);rw[show str [45]= .string ⟨#[45]⟩ from rfl]at eP;simp only[qbe,qbh]at eP;have HE:Hid (KR g nv nv w w/\RdR g w ts a true ns lg tv nv):=J ⟨KR.of_ext (Ext.refl w),h⟩;clear h;go_enter Tryz.func172,Tryz.ntmps172;go_wp2_with fail;refine(eP.o _ _ _ _ _ HE.o.2).mono ?_
 rintro e w1 ⟨rfl,hd⟩;have HE:=J (And.intro (HE.o.1.trans (KR.of_ext hd.ext)) (HE.o.2.keep hd.ext));clear hd;go_wp2_with fail;refine(NW g ts tv _ _ _ _ _ HE.o.2).mono ?_
 rintro e w2 ⟨rfl,hk,hr⟩;have HE:=J (And.intro (HE.o.1.trans hk) hr);clear hk hr;go_wp2_with fail
 (try simp only[Exit.inBlock,Exit.then])
 first
  |refine bodyPost_ret (results_none rfl _ _ _) rfl ?_
  |refine bodyPost_end (results_none rfl _ _ _) rfl ?_
 exact⟨rfl,HE.o.1,HE.o.2⟩
theorem Lm(g:Nat)(ts:List Tok)(tv:Value):S7 g ts tv 128:=by
 intro w a ns lg nv h;have eP:=J (fun W a ns lg nv h=>CU g W ts a true ns lg tv nv [42] h);rw[show str [42]= .string ⟨#[42]⟩ from rfl]at eP;simp only[qbe,qbh]at eP;have fG:=J (fun W a ns lg nv h=>CU g W ts a true ns lg tv nv [47] h);rw[show str [47]= .string ⟨#[47]⟩ from rfl]at fG;simp only[qbe,qbh]at fG;have HE:Hid (KR g nv nv w w/\RdR g w ts a true ns lg tv nv):=J ⟨KR.of_ext (Ext.refl w),h⟩;clear h;go_enter Tryz.func128,Tryz.ntmps128;go_wp2_with fail;refine(NZ g ts tv _ _ _ _ _ HE.o.2).mono ?_
 rintro e w1 ⟨rfl,hk,hr⟩;have HE:=J (And.intro (HE.o.1.trans hk) hr);clear hk hr;go_wp2_with fail;go_loopw [] (fun wr=>KR g nv nv w wr/\RdR g wr ts a true ns lg tv nv) (fun _=>0)
 case atStart=>exact HE.o
 case round=>
  have HE:=J hrel;clear hrel;go_wp2_with fail;refine(eP.o _ _ _ _ _ HE.o.2).mono ?_
  rintro e w2 ⟨rfl,hd⟩;have HE:=J (And.intro (HE.o.1.trans (KR.of_ext hd.ext)) (HE.o.2.keep hd.ext));clear hd;go_wp2_with fail;refine(fG.o _ _ _ _ _ HE.o.2).mono ?_
  rintro e w3 ⟨rfl,hd⟩;have HE:=J (And.intro (HE.o.1.trans (KR.of_ext hd.ext)) (HE.o.2.keep hd.ext));clear hd;go_wp2_with fail
  (try simp only[Exit.inBlock,Exit.then])
  first
   |refine bodyPost_ret (results_none rfl _ _ _) rfl ?_
   |refine bodyPost_end (results_none rfl _ _ _) rfl ?_
  exact⟨rfl,HE.o.1,HE.o.2⟩
theorem RK(g:Nat)(ts:List Tok)(tv:Value):S7 g ts tv 66:=by
 intro w a ns lg nv h;have eP:=J (fun W a ns lg nv h=>CU g W ts a true ns lg tv nv [43] h);rw[show str [43]= .string ⟨#[43]⟩ from rfl]at eP;simp only[qbe,qbh]at eP;have fG:=J (fun W a ns lg nv h=>CU g W ts a true ns lg tv nv [45] h);rw[show str [45]= .string ⟨#[45]⟩ from rfl]at fG;simp only[qbe,qbh]at fG;have HE:Hid (KR g nv nv w w/\RdR g w ts a true ns lg tv nv):=J ⟨KR.of_ext (Ext.refl w),h⟩;clear h;go_enter Tryz.func66,Tryz.ntmps66;go_wp2_with fail;refine(Lm g ts tv _ _ _ _ _ HE.o.2).mono ?_
 rintro e w1 ⟨rfl,hk,hr⟩;have HE:=J (And.intro (HE.o.1.trans hk) hr);clear hk hr;go_wp2_with fail;go_loopw [] (fun wr=>KR g nv nv w wr/\RdR g wr ts a true ns lg tv nv) (fun _=>0)
 case atStart=>exact HE.o
 case round=>
  have HE:=J hrel;clear hrel;go_wp2_with fail;refine(eP.o _ _ _ _ _ HE.o.2).mono ?_
  rintro e w2 ⟨rfl,hd⟩;have HE:=J (And.intro (HE.o.1.trans (KR.of_ext hd.ext)) (HE.o.2.keep hd.ext));clear hd;go_wp2_with fail;refine(fG.o _ _ _ _ _ HE.o.2).mono ?_
  rintro e w3 ⟨rfl,hd⟩;have HE:=J (And.intro (HE.o.1.trans (KR.of_ext hd.ext)) (HE.o.2.keep hd.ext));clear hd;go_wp2_with fail
  (try simp only[Exit.inBlock,Exit.then])
  first
   |refine bodyPost_ret (results_none rfl _ _ _) rfl ?_
   |refine bodyPost_end (results_none rfl _ _ _) rfl ?_
  exact⟨rfl,HE.o.1,HE.o.2⟩
end Big
end Go.Proofs.YtkoaogkknnelaaaGreatDoor
