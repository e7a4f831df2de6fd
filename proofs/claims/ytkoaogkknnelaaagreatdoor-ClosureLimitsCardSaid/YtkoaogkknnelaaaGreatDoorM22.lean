import Derived.Test.YtkoaogkknnelaaaGreatDoorM21
set_option linter.unusedVariables false
set_option linter.unusedSimpArgs false
set_option maxHeartbeats 2000000
set_option maxRecDepth 100000
namespace Go.Proofs.YtkoaogkknnelaaaGreatDoor
namespace Big
open Lib renaming hid → J
open Go.RowKit
section
variable {p:Nat->Option Ex × Nat} {ts:List Tok} {a b n:Nat} {x:Ex}
theorem Mr(h:C1 p ts a=(none,b)):AT p ts a=(none,b):=by unfold AT;rw[h]
theorem LB(h:C1 p ts a=(some x,b))(h1:isS ts b [94]=false):AT p ts a=(some x,b):=S2 h h1
theorem NX(h:C1 p ts a=(some x,b))(h1:isS ts b [94]=true)(h2:isS ts (b+1) [45]=true)(h3:E5 ts (b+2)=some n):AT p ts a=(some (.un 10 (-(n:Int)) x),b+3):=by
 unfold AT;rw[h];simp only;rw[if_pos h1,if_pos h2,h3]
theorem Kj(h:C1 p ts a=(some x,b))(h1:isS ts b [94]=true)(h2:isS ts (b+1) [45]=true)(h3:E5 ts (b+2)=none):AT p ts a=(none,b+2):=by
 unfold AT;rw[h];simp only;rw[if_pos h1,if_pos h2,h3]
theorem NW(h:C1 p ts a=(some x,b))(h1:isS ts b [94]=true)(h2:isS ts (b+1) [45]=false)(h3:E5 ts (b+1)=some n):AT p ts a=(some (.un 10 (n:Int) x),b+2):=by
 unfold AT;rw[h];simp only;rw[if_pos h1,if_neg (by rw[h2];simp),h3]
theorem Ki(h:C1 p ts a=(some x,b))(h1:isS ts b [94]=true)(h2:isS ts (b+1) [45]=false)(h3:E5 ts (b+1)=none):AT p ts a=(none,b+1):=by
 unfold AT;rw[h];simp only;rw[if_pos h1,if_neg (by rw[h2];simp),h3]
theorem I3.some_{w w':World}{e:Ending}{r:Option Nat}(h:I3 w r e w')(hr:r=some n):e= .returned (.tuple #[.int .i64 (n:Int),.bool true])/\Ext w w':=by subst hr;exact⟨h.2,h.1⟩
theorem I3.none_{w w':World}{e:Ending}{r:Option Nat}(h:I3 w r e w')(hr:r=none):e= .returned (.tuple #[.int .i64 0,.bool false])/\Ext w w':=by subst hr;exact⟨h.2,h.1⟩
theorem BZ(off k:Nat)(z:Int):Ag off (.un k z x)=Ag off x++[⟨(k:Int),((off+x.size-1:Nat):Int),0,z,[]⟩]:=rfl
end
section
variable {p:Nat->Option Ex × Nat} {ts:List Tok} {a b:Nat} {x:Ex}
theorem T1(h:isS ts a [45]=false):Bc ts ts.length a=0:=C3 _ h
theorem Tc(h:isS ts a [45]=true):Bc ts ts.length a=Bc ts ts.length (a+1)+1:=by
 have hl:=Cj h;obtain⟨n,hn⟩:∃n,ts.length=n+1:=⟨ts.length-1,by omega⟩;rw[hn,Bc,if_pos h,<-Kl (n+1) n (a+1) (by omega) (by omega)]
end
structure RdR (g:Nat) (w:World) (ts:List Tok) (a:Nat) (bad:Bool) (ns:List Nd) (lg:Bool) (tv nv:Value):Prop where
 blk:Blk w g 120 #[tv,.int .i64 (a:Int),.bool bad,nv,.bool lg]
 row:Ak (g+1) w nv ns
 tok:IP g w tv ts
 few:ns.length<=a
 le:a<=ts.length
 max:ts.length<=1000000
section
variable {g:Nat} {w w':World} {ts:List Tok} {a:Nat} {bad lg:Bool} {ns:List Nd} {tv nv:Value}
theorem RdR.keep(h:RdR g w ts a bad ns lg tv nv)(hx:Ext w w'):RdR g w' ts a bad ns lg tv nv:=
 ⟨h.blk.ext hx,h.row.ext hx,h.tok.below (Below.mono hx (Nat.le_of_lt h.blk.lt)),h.few,h.le,h.max⟩
theorem Blk.five'{t:TypeId}{c1 c2 c3 c4 c5:Value}(h:Blk w g t #[c1,c2,c3,c4,c5]):(w.cell? ⟨g,0,none⟩=some c1/\w.cell? ⟨g,1,none⟩=some c2/\w.cell? ⟨g,2,none⟩=some c3/\w.cell? ⟨g,3,none⟩=some c4/\w.cell? ⟨g,4,none⟩=some c5)/\(w.frozen? ⟨g,1,none⟩=false/\w.frozen? ⟨g,2,none⟩=false/\w.frozen? ⟨g,3,none⟩=false/\w.frozen? ⟨g,4,none⟩=false)/\g<w.heap.size:=
 ⟨⟨h.cell 0,h.cell 1,h.cell 2,h.cell 3,h.cell 4⟩,⟨h.frozen 1,h.frozen 2,h.frozen 3,h.frozen 4⟩,h.lt⟩
theorem KR.set(h:Below g w w)(o:Nat)(u:Value):KR g nv nv w (w.setCell ⟨g,o,none⟩ u):=by
 have hb:Below g w (w.setCell ⟨g,o,none⟩ u):=Below.setCell h (p:=⟨g,o,none⟩) (Nat.le_refl _) _;exact⟨hb.os,hb.tape,hb.output,hb.size,fun k _ hk _=>Below.heap_setCell _ _ _ k hk,fun _ hj=> .inl hj⟩
theorem RdR.stepR(h:RdR g w ts a bad ns lg tv nv)(ha:a<ts.length):RdR g (w.setCell ⟨g,1,none⟩ (.int .i64 ((a:Int)+1))) ts (a+1) bad ns lg tv nv/\KR g nv nv w (w.setCell ⟨g,1,none⟩ (.int .i64 ((a:Int)+1))):=by
 have hk:KR g nv nv w (w.setCell ⟨g,1,none⟩ (.int .i64 ((a:Int)+1))):=KR.set (Below.refl g w) 1 _;have hb:Below g w (w.setCell ⟨g,1,none⟩ (.int .i64 ((a:Int)+1))):=Below.setCell (Below.refl g w) (p:=⟨g,1,none⟩) (Nat.le_refl _) _;refine⟨⟨?_,h.row.kept (fun k hk _=>Below.heap_setCell _ _ _ k (by show k≠g;omega)),h.tok.below hb,by have:=h.few;omega,ha,h.max⟩,hk⟩;have h3:=h.blk.set_ 1 (.int .i64 ((a:Int)+1));rw[Int.natCast_add];exact h3
theorem RdR.fail(h:RdR g w ts a bad ns lg tv nv):RdR g (w.setCell ⟨g,2,none⟩ (.bool true)) ts a true ns lg tv nv/\KR g nv nv w (w.setCell ⟨g,2,none⟩ (.bool true)):=by
 have hk:KR g nv nv w (w.setCell ⟨g,2,none⟩ (.bool true)):=KR.set (Below.refl g w) 2 _;have hb:Below g w (w.setCell ⟨g,2,none⟩ (.bool true)):=Below.setCell (Below.refl g w) (p:=⟨g,2,none⟩) (Nat.le_refl _) _;exact⟨⟨h.blk.set_ 2 (.bool true),h.row.kept (fun k hk _=>Below.heap_setCell _ _ _ k (by show k≠g;omega)),h.tok.below hb,h.few,h.le,h.max⟩,hk⟩
theorem RdR.large(h:RdR g w ts a bad ns lg tv nv)(l2:Bool):RdR g (w.setCell ⟨g,4,none⟩ (.bool l2)) ts a bad ns l2 tv nv/\KR g nv nv w (w.setCell ⟨g,4,none⟩ (.bool l2)):=by
 have hk:KR g nv nv w (w.setCell ⟨g,4,none⟩ (.bool l2)):=KR.set (Below.refl g w) 4 _;have hb:Below g w (w.setCell ⟨g,4,none⟩ (.bool l2)):=Below.setCell (Below.refl g w) (p:=⟨g,4,none⟩) (Nat.le_refl _) _;exact⟨⟨h.blk.set_ 4 (.bool l2),h.row.kept (fun k hk _=>Below.heap_setCell _ _ _ k (by show k≠g;omega)),h.tok.below hb,h.few,h.le,h.max⟩,hk⟩
end
theorem CX(g:Nat)(w:World)(ts:List Tok)(a:Nat)(bad:Bool)(ns:List Nd)(lg:Bool)(tv nv:Value)(c:List UInt8)(h:RdR g w ts a bad ns lg tv nv):
  Calls Tryz.prog 129 #[.pointer (some ⟨g,0,none⟩),str c] w fun e w'=>e= .returned (.bool (!bad && isS ts a c))/\Dr w w':=by
 have hb:=h.blk;have hn:=h.row;obtain⟨A,c0,rfl,ac⟩:=h.tok;obtain⟨A2,c2,rfl⟩:=hn.shape;have hle:=h.le;have fp:=h.max;obtain⟨⟨k0,k1,k2,k3,k4⟩,_,hg⟩:=hb.five';clear hb hn h;cases bad
 ·obtain⟨n,ie⟩:∃n,n=ts.length:=⟨_,rfl⟩;rw[<-ie]at k0 hle fp;have k8:=J ie;clear ie;rcases Nat.lt_or_ge a n with hlt|dU
  ·have hlt2:a<ts.length:=by rw[<-k8.o];exact hlt
   obtain⟨b,rfl,_,_,hc⟩:=ac (by omega);obtain⟨q0,q1,q2⟩:=hc a hlt2;have hI:isS ts a c=((ts[a].kind == 3) && (ts[a].text == c)):=by
    unfold isS;rw[List.getElem?_eq_getElem hlt2]
   have HI:=J hI;clear hI ac hc;generalize ts[a].kind=tk at *;generalize ts[a].text=tx at *;generalize isS ts a c=r at *;have z1:decide (a<n)=true:=decide_eq_true hlt;cases hk:(tk == 3)
   ·have hk2:((tk:Int) == 3)=false:=by
     rw[beq_eq_false_iff_ne]at hk ⊢;omega
    rw[hk]at HI;clear hk;go_enter Tryz.func129,Tryz.ntmps129;go_wp2_with fail;go_quiet (fail);go_wp2_with fail;go_ret;exact⟨by rw[HI.o];rfl,(Dr.refl w).drewN _⟩
   ·have hk2:((tk:Int) == 3)=true:=by
     rw[beq_iff_eq]at hk ⊢;omega
    rw[hk]at HI;clear hk;go_enter Tryz.func129,Tryz.ntmps129;go_wp2_with fail;go_quiet (fail);go_wp2_with fail;go_ret;exact⟨by rw[HI.o];rfl,(Dr.refl w).drewN _⟩
  ·have HI:Hid (isS ts a c=false):=J (by
    unfold isS;rw[List.getElem?_eq_none (by rw[<-k8.o];exact dU)])
   have z1:decide (a<n)=false:=decide_eq_false (by omega);have z2:¬(a:Int)<(n:Int):=by omega
   clear ac;go_enter Tryz.func129,Tryz.ntmps129;go_wp2_with fail;go_quiet (fail);go_wp2_with fail;go_ret;exact⟨by rw[HI.o];rfl,(Dr.refl w).drewN _⟩
 ·clear ac;go_enter Tryz.func129,Tryz.ntmps129;go_wp2_with fail;go_quiet (fail);go_wp2_with fail;go_ret;exact⟨rfl,(Dr.refl w).drewN _⟩
theorem DP(g:Nat)(w:World)(ts:List Tok)(a:Nat)(bad:Bool)(ns:List Nd)(lg:Bool)(tv nv:Value)(c:List UInt8)(h:RdR g w ts a bad ns lg tv nv):
  Calls Tryz.prog 268 #[.pointer (some ⟨g,0,none⟩),str c] w fun e w'=>e= .returned (.tuple #[])/\KR g nv nv w w'/\RdR g w' ts (if (!bad && isS ts a c)=true then a+1 else a) (!(!bad && isS ts a c)) ns lg tv nv:=by
 have HS:=J (CX g w ts a bad ns lg tv nv c h);have H:=J h;have fp:=h.max;have hle:=h.le;cases hs:(!bad && isS ts a c)
 ·rw[hs]at HS;clear h hs;go_enter Tryz.func268,Tryz.ntmps268;go_wp2_with fail;refine HS.o.mono ?_
  rintro e w1 ⟨rfl,hd⟩;have hr:=H.o.keep hd.ext;have HR:=J hr;have HD:=J hd;obtain⟨⟨k0,k1,k2,k3,k4⟩,⟨f1,f2,f3,f4⟩,hg⟩:=hr.blk.five';clear hd hr;go_wp2_with fail;go_end0;have h3:=HR.o.fail;exact⟨rfl,(KR.of_ext HD.o.ext).trans h3.2,h3.1⟩
 ·rw[hs]at HS;have hlt:=Cj (Bool.and_eq_true_iff.1 hs).2;have Ue:bad=false:=by have:=(Bool.and_eq_true_iff.1 hs).1;simpa using this
  subst Ue;have aL:IntKind.i64.wrap ((a:Int)+1)=(a:Int)+1:=IntWalk.i64_in _ (by omega);clear h hs;go_enter Tryz.func268,Tryz.ntmps268;go_wp2_with fail;refine HS.o.mono ?_
  rintro e w1 ⟨rfl,hd⟩;have hr:=H.o.keep hd.ext;have HR:=J hr;have HD:=J hd;obtain⟨⟨k0,k1,k2,k3,k4⟩,⟨f1,f2,f3,f4⟩,hg⟩:=hr.blk.five';clear hd hr;go_wp2_with fail
  (try simp only[Exit.inBlock,Exit.then])
  refine bodyPost_ret (results_none rfl _ _ _) rfl ?_
  have h3:=HR.o.stepR hlt;exact⟨rfl,(KR.of_ext HD.o.ext).trans h3.2,h3.1⟩
def EO(k first z:Int)(len:Nat)(t:List UInt8):Nd:=if Ap k=1 then ⟨k,(len:Int)-1,0,z,t⟩ else if Ap k=2 then ⟨k,first,(len:Int)-1,z,t⟩ else ⟨k,0,0,z,t⟩
theorem B9(g:Nat)(w:World)(ts:List Tok)(a:Nat)(bad:Bool)(ns:List Nd)(lg:Bool)(tv nv:Value)(k first z:Int)(t:List UInt8)(h:RdR g w ts a bad ns lg tv nv)(hf:ns.length+1<=a):
  Calls Tryz.prog 130 #[.pointer (some ⟨g,0,none⟩),.int .i64 k,.int .i64 first,.int .i64 z,str t] w fun e w'=>∃nv',e= .returned (.tuple #[])/\KR g nv nv' w w'/\RdR g w' ts a bad (ns++[EO k first z ns.length t]) lg tv nv':=by
 have aw:=h.blk;have aH:=h.row;have HT:=J h.tok;have hle:=h.le;have fp:=h.max;have HB:=J aw;have HR:=J aH;obtain⟨A,c,rfl⟩:=aH.shape;have fA:=aw.lt;obtain⟨i0,hi,aU,hz1,a9⟩:=info_parts Dj;obtain⟨s,hs⟩:∃s:ByteArray,s=⟨t.toArray⟩:=⟨_,rfl⟩;have i2:Hid (str t= .string s):=J (by rw[hs];rfl);rw[i2.o];clear hs h aH;have aK:=J (fun W=>Bx W k);obtain⟨⟨k0,k1,k2,k3,k4⟩,⟨f1,f2,f3,f4⟩,_⟩:=aw.five';clear aw;obtain⟨n,hn⟩:∃n,n=ns.length:=⟨_,rfl⟩;rw[<-hn]at hf k3 ⊢;have HN:=J hn;clear hn;have aL:IntKind.i64.wrap ((n:Int)-1)=(n:Int)-1:=IntWalk.i64_in _ (by omega);have key:=FO k;have uY:∀q:Int,¬q=1->(q == 1)=false:=fun q h=>by rw[beq_eq_false_iff_ne];exact h
 clear uY;have h3:(Ap k≠1/\Ap k≠2)\/Ap k=1\/Ap k=2:=by omega
 rcases h3 with ⟨uU,uT⟩|aG|aG
 ·have b1:(Ap k == 1)=false:=by rw[beq_eq_false_iff_ne];exact uU
  have b2:(Ap k == 2)=false:=by rw[beq_eq_false_iff_ne];exact uT
  have wU:Hid (EO k first z ns.length t=⟨k,0,0,z,t⟩):=J (by unfold EO;rw[if_neg uU,if_neg uT]);generalize Ap k=op at *;go_enter Tryz.func130,Tryz.ntmps130;go_wp2_with fail;refine(aK.o _).mono ?_
  rintro e w2 ⟨rfl,rfl⟩;obtain⟨w0,ej⟩:∃w0,w0=w.alloc (.cells #[.int .i64 k,.int .i64 0,.int .i64 0,.int .i64 z,.string s] 95):=⟨_,rfl⟩;have hx0:Ext w w0:=by rw[ej];exact((Ext.refl w).alloc _)
  have ol:Blk w0 w.heap.size 95 #[.int .i64 k,.int .i64 0,.int .i64 0,.int .i64 z,.string s]:=by rw[ej];exact(Blk.new w _ _)
  have cQ:w0.heap.size=w.heap.size+1:=by rw[ej];simp
  have fD:=J (HB.o.ext hx0);have qb:=J (HR.o.ext hx0);have ek:=J hx0;have ao:ns.length=n:=HN.o.symm;have qV:Hid (w.ownsRow (g+1) 95 5 (.slice A n c) n (Bm ns)):=J (by have h:=HR.o;unfold Ak at h;rw[ao]at h;exact h);have hne:∀q,(Value.slice A n c).ownBlock=some q->g≠q:=fun q hq=>by have:=AC qV.o q hq;omega
  have jo:Hid (∀w':World,(w0.alloc (.cells #[.int .i64 k,.int .i64 0,.int .i64 0,.int .i64 z,.string s] 95)).drew.grownBy w' (Value.slice A n c).ownBlock->Blk w' g 120 #[tv,.int .i64 (a:Int),.bool bad,.slice A n c,.bool lg]/\(Below g w0 w'/\∀q,q<w.heap.size->(Value.slice A n c).ownBlock≠some q->w'.heap[q]? =w.heap[q]?)):=J (fun w' al=>by
   refine⟨?_,?_⟩
   ·have h1:=al.block g (show g<(w0.alloc (.cells #[.int .i64 k,.int .i64 0,.int .i64 0,.int .i64 z,.string s] 95)).drew.heap.size by simp;omega) (fun e=>hne g e.symm rfl);have h2:=(fD.o.alloc (.cells #[.int .i64 k,.int .i64 0,.int .i64 0,.int .i64 z,.string s] 95)).drew;rw[ao]at h2;exact h1.trans h2
   ·refine⟨(((Below.refl g w0).alloc (by omega) _).drew).grown al (by simp;omega) (fun q hq=>by have:=AC qV.o q hq;omega),fun q hq hne2=> ?_⟩;have h1:=al.block q (show q<(w0.alloc (.cells #[.int .i64 k,.int .i64 0,.int .i64 0,.int .i64 z,.string s] 95)).drew.heap.size by simp;omega) (fun e=>hne2 e.symm);rw[h1];exact(Below.heap_alloc w0 _ q (by omega)).trans (hx0.block q hq))
  have dW:Hid (∀(j:Nat) (u:Value),[Value.int .i64 k,Value.int .i64 0,Value.int .i64 0,Value.int .i64 z,Value.string s][j]? =some u->(w0.alloc (.cells #[.int .i64 k,.int .i64 0,.int .i64 0,.int .i64 z,.string s] 95)).drew.cell? ((⟨w0.heap.size,0,none⟩:Addr).add j)=some u):=J (Bw w0 95 [.int .i64 k,.int .i64 0,.int .i64 0,.int .i64 z,.string s]);have cZ:Hid ((w0.alloc (.cells #[.int .i64 k,.int .i64 0,.int .i64 0,.int .i64 z,.string s] 95)).drew.ownsRow (g+1) 95 5 (.slice A n c) n (Bm ns)):=J (by
   have h:=Ad qb.o (w':=(w0.alloc (.cells #[.int .i64 k,.int .i64 0,.int .i64 0,.int .i64 z,.string s] 95)).drew) (fun k _ hk=>Below.heap_alloc w0 _ k hk);rw[ao]at h;exact h)
  have aM:Hid (n+1<=maxLen):=J (by unfold maxLen;omega);have aP:Hid ((n+1)*48<=140737488355328):=J (by omega);have aD:Hid (g+1<=(w0.alloc (.cells #[.int .i64 k,.int .i64 0,.int .i64 0,.int .i64 z,.string s] 95)).drew.heap.size):=J (by simp;omega);have p9:Hid (ndC (EO k first z ns.length t)=[.int .i64 k,.int .i64 0,.int .i64 0,.int .i64 z,.string s]):=J (by rw[wU.o];(try rw[ao]);simp only[ndC,i2.o]);rw[cQ]at dW;have HZ:=J ej;have q0:=ol.five;obtain⟨⟨k0,k1,k2,k3,k4⟩,⟨f1,f2,f3,f4⟩,lG⟩:=fD.o.five';rw[ao]at k3;clear hne hx0 ol ej ao;go_upto_region 6 with fail;rw[<-HZ.o];clear HZ
  go_region_law (refine step_append_lies _ rfl (.tmp 41) (.tmp 43) 32 rfl (g+1) 95 i0 _ 5 48 Tryz.underlying32 hi aU hz1 a9 rfl (by decide) _ n (Bm ns) rfl cZ.o ⟨w.heap.size+1,0,none⟩ 1 1 [.int .i64 k,.int .i64 0,.int .i64 0,.int .i64 z,.string s] rfl rfl dW.o (by simp[Value.oneCell']) (by decide) aM.o aP.o aD.o _ rfl ?_;intro g' c' w' ag al hat hlt;have gF:=J ag;have HM:=J (jo.o w' al);have jz:=J hat;clear ag al hat;obtain⟨⟨m0,m1,m2,m3,m4⟩,⟨n1,n2,n3,n4⟩,vr⟩:=HM.o.1.five')
  all_goals
   have eC:=HM.o.1.set_ 3 (.slice (some ⟨g',0,none⟩) (n+1) c');have gJ:=J ((Below.mono ek.o (Nat.le_of_lt fA)).trans (HM.o.2.1.setCell (p:=⟨g,3,none⟩) (Nat.le_refl _) (.slice (some ⟨g',0,none⟩) (n+1) c')));have HF:Hid (RdR g (w'.setCell ⟨g,3,none⟩ (.slice (some ⟨g',0,none⟩) (n+1) c')) ts a bad (ns++[EO k first z ns.length t]) lg tv (.slice (some ⟨g',0,none⟩) (n+1) c')):=J ⟨eC,by
     have h3:=gF.o;unfold Ak;rw[Cz,EY,p9.o,List.length_append,List.length_singleton,<-HN.o];exact Ad h3 (fun k hk _=>Below.heap_setCell _ _ _ k (by show k≠g;omega)),HT.o.below gJ.o,by rw[List.length_append,List.length_singleton,<-HN.o];exact hf,hle,fp⟩
   have qY:Hid (KR g (.slice A n c) (.slice (some ⟨g',0,none⟩) (n+1) c') w (w'.setCell ⟨g,3,none⟩ (.slice (some ⟨g',0,none⟩) (n+1) c'))):=J ⟨gJ.o.os,gJ.o.tape,gJ.o.output,gJ.o.size,fun q h1 h2 h3=>(Below.heap_setCell _ _ _ q h2).trans (HM.o.2.2 q h1 h3),fun j hj=>by
     simp only[Value.ownBlock,Option.some.injEq]at hj;subst hj;rcases jz.o with h4|h4
     ·exact .inl h4
     ·right
      rw[h4];simp;omega⟩
   clear eC;go_wp2_with fail;go_end0;rw[HN.o]at qY HF ⊢;exact⟨_,rfl,qY.o,HF.o⟩
 ·have wU:Hid (EO k first z ns.length t=⟨k,(ns.length:Int)-1,0,z,t⟩):=J (by unfold EO;rw[if_pos aG]);rw[aG]at aK;clear aG key;go_enter Tryz.func130,Tryz.ntmps130;go_wp2_with fail;refine(aK.o _).mono ?_
  rintro e w2 ⟨rfl,rfl⟩;go_upto_region 6 with fail;obtain⟨w0,ej⟩:∃w0,w0=w.alloc (.cells #[.int .i64 k,.int .i64 ((n:Int)-1),.int .i64 0,.int .i64 z,.string s] 95):=⟨_,rfl⟩;have hx0:Ext w w0:=by rw[ej];exact((Ext.refl w).alloc _)
  have ol:Blk w0 w.heap.size 95 #[.int .i64 k,.int .i64 ((n:Int)-1),.int .i64 0,.int .i64 z,.string s]:=by rw[ej];exact(Blk.new w _ _)
  have cQ:w0.heap.size=w.heap.size+1:=by rw[ej];simp
  have fD:=J (HB.o.ext hx0);have qb:=J (HR.o.ext hx0);have ek:=J hx0;have ao:ns.length=n:=HN.o.symm;have qV:Hid (w.ownsRow (g+1) 95 5 (.slice A n c) n (Bm ns)):=J (by have h:=HR.o;unfold Ak at h;rw[ao]at h;exact h);have hne:∀q,(Value.slice A n c).ownBlock=some q->g≠q:=fun q hq=>by have:=AC qV.o q hq;omega
  have jo:Hid (∀w':World,(w0.alloc (.cells #[.int .i64 k,.int .i64 ((n:Int)-1),.int .i64 0,.int .i64 z,.string s] 95)).drew.grownBy w' (Value.slice A n c).ownBlock->Blk w' g 120 #[tv,.int .i64 (a:Int),.bool bad,.slice A n c,.bool lg]/\(Below g w0 w'/\∀q,q<w.heap.size->(Value.slice A n c).ownBlock≠some q->w'.heap[q]? =w.heap[q]?)):=J (fun w' al=>by
   refine⟨?_,?_⟩
   ·have h1:=al.block g (show g<(w0.alloc (.cells #[.int .i64 k,.int .i64 ((n:Int)-1),.int .i64 0,.int .i64 z,.string s] 95)).drew.heap.size by simp;omega) (fun e=>hne g e.symm rfl);have h2:=(fD.o.alloc (.cells #[.int .i64 k,.int .i64 ((n:Int)-1),.int .i64 0,.int .i64 z,.string s] 95)).drew;rw[ao]at h2;exact h1.trans h2
   ·refine⟨(((Below.refl g w0).alloc (by omega) _).drew).grown al (by simp;omega) (fun q hq=>by have:=AC qV.o q hq;omega),fun q hq hne2=> ?_⟩;have h1:=al.block q (show q<(w0.alloc (.cells #[.int .i64 k,.int .i64 ((n:Int)-1),.int .i64 0,.int .i64 z,.string s] 95)).drew.heap.size by simp;omega) (fun e=>hne2 e.symm);rw[h1];exact(Below.heap_alloc w0 _ q (by omega)).trans (hx0.block q hq))
  have dW:Hid (∀(j:Nat) (u:Value),[Value.int .i64 k,Value.int .i64 ((n:Int)-1),Value.int .i64 0,Value.int .i64 z,Value.string s][j]? =some u->(w0.alloc (.cells #[.int .i64 k,.int .i64 ((n:Int)-1),.int .i64 0,.int .i64 z,.string s] 95)).drew.cell? ((⟨w0.heap.size,0,none⟩:Addr).add j)=some u):=J (Bw w0 95 [.int .i64 k,.int .i64 ((n:Int)-1),.int .i64 0,.int .i64 z,.string s]);have cZ:Hid ((w0.alloc (.cells #[.int .i64 k,.int .i64 ((n:Int)-1),.int .i64 0,.int .i64 z,.string s] 95)).drew.ownsRow (g+1) 95 5 (.slice A n c) n (Bm ns)):=J (by
   have h:=Ad qb.o (w':=(w0.alloc (.cells #[.int .i64 k,.int .i64 ((n:Int)-1),.int .i64 0,.int .i64 z,.string s] 95)).drew) (fun k _ hk=>Below.heap_alloc w0 _ k hk);rw[ao]at h;exact h)
  have aM:Hid (n+1<=maxLen):=J (by unfold maxLen;omega);have aP:Hid ((n+1)*48<=140737488355328):=J (by omega);have aD:Hid (g+1<=(w0.alloc (.cells #[.int .i64 k,.int .i64 ((n:Int)-1),.int .i64 0,.int .i64 z,.string s] 95)).drew.heap.size):=J (by simp;omega);have p9:Hid (ndC (EO k first z ns.length t)=[.int .i64 k,.int .i64 ((n:Int)-1),.int .i64 0,.int .i64 z,.string s]):=J (by rw[wU.o];(try rw[ao]);simp only[ndC,i2.o]);rw[cQ]at dW;have HZ:=J ej;have q0:=ol.five;obtain⟨⟨k0,k1,k2,k3,k4⟩,⟨f1,f2,f3,f4⟩,lG⟩:=fD.o.five';rw[ao]at k3;clear hne hx0 ol ej ao;go_upto_region 6 with fail;rw[<-HZ.o];clear HZ
  go_region_law (refine step_append_lies _ rfl (.tmp 41) (.tmp 43) 32 rfl (g+1) 95 i0 _ 5 48 Tryz.underlying32 hi aU hz1 a9 rfl (by decide) _ n (Bm ns) rfl cZ.o ⟨w.heap.size+1,0,none⟩ 1 1 [.int .i64 k,.int .i64 ((n:Int)-1),.int .i64 0,.int .i64 z,.string s] rfl rfl dW.o (by simp[Value.oneCell']) (by decide) aM.o aP.o aD.o _ rfl ?_;intro g' c' w' ag al hat hlt;have gF:=J ag;have HM:=J (jo.o w' al);have jz:=J hat;clear ag al hat;obtain⟨⟨m0,m1,m2,m3,m4⟩,⟨n1,n2,n3,n4⟩,vr⟩:=HM.o.1.five')
  all_goals
   have eC:=HM.o.1.set_ 3 (.slice (some ⟨g',0,none⟩) (n+1) c');have gJ:=J ((Below.mono ek.o (Nat.le_of_lt fA)).trans (HM.o.2.1.setCell (p:=⟨g,3,none⟩) (Nat.le_refl _) (.slice (some ⟨g',0,none⟩) (n+1) c')));have HF:Hid (RdR g (w'.setCell ⟨g,3,none⟩ (.slice (some ⟨g',0,none⟩) (n+1) c')) ts a bad (ns++[EO k first z ns.length t]) lg tv (.slice (some ⟨g',0,none⟩) (n+1) c')):=J ⟨eC,by
     have h3:=gF.o;unfold Ak;rw[Cz,EY,p9.o,List.length_append,List.length_singleton,<-HN.o];exact Ad h3 (fun k hk _=>Below.heap_setCell _ _ _ k (by show k≠g;omega)),HT.o.below gJ.o,by rw[List.length_append,List.length_singleton,<-HN.o];exact hf,hle,fp⟩
   have qY:Hid (KR g (.slice A n c) (.slice (some ⟨g',0,none⟩) (n+1) c') w (w'.setCell ⟨g,3,none⟩ (.slice (some ⟨g',0,none⟩) (n+1) c'))):=J ⟨gJ.o.os,gJ.o.tape,gJ.o.output,gJ.o.size,fun q h1 h2 h3=>(Below.heap_setCell _ _ _ q h2).trans (HM.o.2.2 q h1 h3),fun j hj=>by
     simp only[Value.ownBlock,Option.some.injEq]at hj;subst hj;rcases jz.o with h4|h4
     ·exact .inl h4
     ·right
      rw[h4];simp;omega⟩
   clear eC;go_wp2_with fail;go_end0;rw[HN.o]at qY HF ⊢;exact⟨_,rfl,qY.o,HF.o⟩
 ·have wU:Hid (EO k first z ns.length t=⟨k,first,(ns.length:Int)-1,z,t⟩):=J (by unfold EO;rw[if_neg (by rw[aG];decide),if_pos aG]);rw[aG]at aK;clear aG key;go_enter Tryz.func130,Tryz.ntmps130;go_wp2_with fail;refine(aK.o _).mono ?_
  rintro e w2 ⟨rfl,rfl⟩;go_upto_region 5 with fail;go_region
  all_goals go_upto_region 6 with fail
  obtain⟨w0,ej⟩:∃w0,w0=(w.alloc (.cells #[.int .i64 k,.int .i64 first,.int .i64 ((n:Int)-1),.int .i64 z,.string s] 95)).drew:=⟨_,rfl⟩;have hx0:Ext w w0:=by rw[ej];exact((Ext.refl w).alloc _).drew
  have ol:Blk w0 w.heap.size 95 #[.int .i64 k,.int .i64 first,.int .i64 ((n:Int)-1),.int .i64 z,.string s]:=by rw[ej];exact(Blk.new w _ _).drew
  have cQ:w0.heap.size=w.heap.size+1:=by rw[ej];simp
  have fD:=J (HB.o.ext hx0);have qb:=J (HR.o.ext hx0);have ek:=J hx0;have ao:ns.length=n:=HN.o.symm;have qV:Hid (w.ownsRow (g+1) 95 5 (.slice A n c) n (Bm ns)):=J (by have h:=HR.o;unfold Ak at h;rw[ao]at h;exact h);have hne:∀q,(Value.slice A n c).ownBlock=some q->g≠q:=fun q hq=>by have:=AC qV.o q hq;omega
  have jo:Hid (∀w':World,(w0.alloc (.cells #[.int .i64 k,.int .i64 first,.int .i64 ((n:Int)-1),.int .i64 z,.string s] 95)).drew.grownBy w' (Value.slice A n c).ownBlock->Blk w' g 120 #[tv,.int .i64 (a:Int),.bool bad,.slice A n c,.bool lg]/\(Below g w0 w'/\∀q,q<w.heap.size->(Value.slice A n c).ownBlock≠some q->w'.heap[q]? =w.heap[q]?)):=J (fun w' al=>by
   refine⟨?_,?_⟩
   ·have h1:=al.block g (show g<(w0.alloc (.cells #[.int .i64 k,.int .i64 first,.int .i64 ((n:Int)-1),.int .i64 z,.string s] 95)).drew.heap.size by simp;omega) (fun e=>hne g e.symm rfl);have h2:=(fD.o.alloc (.cells #[.int .i64 k,.int .i64 first,.int .i64 ((n:Int)-1),.int .i64 z,.string s] 95)).drew;rw[ao]at h2;exact h1.trans h2
   ·refine⟨(((Below.refl g w0).alloc (by omega) _).drew).grown al (by simp;omega) (fun q hq=>by have:=AC qV.o q hq;omega),fun q hq hne2=> ?_⟩;have h1:=al.block q (show q<(w0.alloc (.cells #[.int .i64 k,.int .i64 first,.int .i64 ((n:Int)-1),.int .i64 z,.string s] 95)).drew.heap.size by simp;omega) (fun e=>hne2 e.symm);rw[h1];exact(Below.heap_alloc w0 _ q (by omega)).trans (hx0.block q hq))
  have dW:Hid (∀(j:Nat) (u:Value),[Value.int .i64 k,Value.int .i64 first,Value.int .i64 ((n:Int)-1),Value.int .i64 z,Value.string s][j]? =some u->(w0.alloc (.cells #[.int .i64 k,.int .i64 first,.int .i64 ((n:Int)-1),.int .i64 z,.string s] 95)).drew.cell? ((⟨w0.heap.size,0,none⟩:Addr).add j)=some u):=J (Bw w0 95 [.int .i64 k,.int .i64 first,.int .i64 ((n:Int)-1),.int .i64 z,.string s]);have cZ:Hid ((w0.alloc (.cells #[.int .i64 k,.int .i64 first,.int .i64 ((n:Int)-1),.int .i64 z,.string s] 95)).drew.ownsRow (g+1) 95 5 (.slice A n c) n (Bm ns)):=J (by
   have h:=Ad qb.o (w':=(w0.alloc (.cells #[.int .i64 k,.int .i64 first,.int .i64 ((n:Int)-1),.int .i64 z,.string s] 95)).drew) (fun k _ hk=>Below.heap_alloc w0 _ k hk);rw[ao]at h;exact h)
  have aM:Hid (n+1<=maxLen):=J (by unfold maxLen;omega);have aP:Hid ((n+1)*48<=140737488355328):=J (by omega);have aD:Hid (g+1<=(w0.alloc (.cells #[.int .i64 k,.int .i64 first,.int .i64 ((n:Int)-1),.int .i64 z,.string s] 95)).drew.heap.size):=J (by simp;omega);have p9:Hid (ndC (EO k first z ns.length t)=[.int .i64 k,.int .i64 first,.int .i64 ((n:Int)-1),.int .i64 z,.string s]):=J (by rw[wU.o];(try rw[ao]);simp only[ndC,i2.o]);rw[cQ]at dW;have HZ:=J ej;have q0:=ol.five;obtain⟨⟨k0,k1,k2,k3,k4⟩,⟨f1,f2,f3,f4⟩,lG⟩:=fD.o.five';rw[ao]at k3;clear hne hx0 ol ej ao;go_upto_region 6 with fail;rw[<-HZ.o];clear HZ
  go_region_law (refine step_append_lies _ rfl (.tmp 41) (.tmp 43) 32 rfl (g+1) 95 i0 _ 5 48 Tryz.underlying32 hi aU hz1 a9 rfl (by decide) _ n (Bm ns) rfl cZ.o ⟨w.heap.size+1,0,none⟩ 1 1 [.int .i64 k,.int .i64 first,.int .i64 ((n:Int)-1),.int .i64 z,.string s] rfl rfl dW.o (by simp[Value.oneCell']) (by decide) aM.o aP.o aD.o _ rfl ?_;intro g' c' w' ag al hat hlt;have gF:=J ag;have HM:=J (jo.o w' al);have jz:=J hat;clear ag al hat;obtain⟨⟨m0,m1,m2,m3,m4⟩,⟨n1,n2,n3,n4⟩,vr⟩:=HM.o.1.five')
  all_goals
   have eC:=HM.o.1.set_ 3 (.slice (some ⟨g',0,none⟩) (n+1) c');have gJ:=J ((Below.mono ek.o (Nat.le_of_lt fA)).trans (HM.o.2.1.setCell (p:=⟨g,3,none⟩) (Nat.le_refl _) (.slice (some ⟨g',0,none⟩) (n+1) c')));have HF:Hid (RdR g (w'.setCell ⟨g,3,none⟩ (.slice (some ⟨g',0,none⟩) (n+1) c')) ts a bad (ns++[EO k first z ns.length t]) lg tv (.slice (some ⟨g',0,none⟩) (n+1) c')):=J ⟨eC,by
     have h3:=gF.o;unfold Ak;rw[Cz,EY,p9.o,List.length_append,List.length_singleton,<-HN.o];exact Ad h3 (fun k hk _=>Below.heap_setCell _ _ _ k (by show k≠g;omega)),HT.o.below gJ.o,by rw[List.length_append,List.length_singleton,<-HN.o];exact hf,hle,fp⟩
   have qY:Hid (KR g (.slice A n c) (.slice (some ⟨g',0,none⟩) (n+1) c') w (w'.setCell ⟨g,3,none⟩ (.slice (some ⟨g',0,none⟩) (n+1) c'))):=J ⟨gJ.o.os,gJ.o.tape,gJ.o.output,gJ.o.size,fun q h1 h2 h3=>(Below.heap_setCell _ _ _ q h2).trans (HM.o.2.2 q h1 h3),fun j hj=>by
     simp only[Value.ownBlock,Option.some.injEq]at hj;subst hj;rcases jz.o with h4|h4
     ·exact .inl h4
     ·right
      rw[h4];simp;omega⟩
   clear eC;go_wp2_with fail;go_end0;rw[HN.o]at qY HF ⊢;exact⟨_,rfl,qY.o,HF.o⟩
def Sk(g:Nat)(ts:List Tok)(tv:Value)(F:FuncId):Prop:=∀w a ns lg nv,RdR g w ts a true ns lg tv nv->Calls Tryz.prog F #[.pointer (some ⟨g,0,none⟩)] w fun e w'=>e= .returned (.tuple #[])/\KR g nv nv w w'/\RdR g w' ts a true ns lg tv nv
theorem PN(g:Nat)(ts:List Tok)(tv:Value):Sk g ts tv 240:=by
 intro w a ns lg nv h;have H:=J h;obtain⟨⟨k0,k1,k2,k3,k4⟩,⟨f1,f2,f3,f4⟩,hg⟩:=h.blk.five';clear h;go_enter Tryz.func240,Tryz.ntmps240;go_wp2_with fail;go_quiet (fail);go_wp2_with fail
 (try simp only[Exit.inBlock,Exit.then])
 refine bodyPost_ret (results_none rfl _ _ _) rfl ?_
 have h3:=(H.o.keep ((Ext.refl w).drewN nq)).fail;exact⟨rfl,(KR.of_ext ((Ext.refl w).drewN nq)).trans h3.2,h3.1⟩
theorem NG(g:Nat)(ts:List Tok)(tv:Value):Sk g ts tv 206:=by
 intro w a ns lg nv h;have dC:=J (fun W a ns lg nv h=>CX g W ts a true ns lg tv nv [94] h);rw[show str [94]= .string ⟨#[94]⟩ from rfl]at dC;simp only[Bool.not_true,Bool.false_and]at dC;have HE:Hid (KR g nv nv w w/\RdR g w ts a true ns lg tv nv):=J ⟨KR.of_ext (Ext.refl w),h⟩;clear h;go_enter Tryz.func206,Tryz.ntmps206;go_wp2_with fail;refine(PN g ts tv _ _ _ _ _ HE.o.2).mono ?_
 rintro e w1 ⟨rfl,hk,hr⟩;have HE:=J (And.intro (HE.o.1.trans hk) hr);clear hk hr;go_wp2_with fail;refine(dC.o _ _ _ _ _ HE.o.2).mono ?_
 rintro e w2 ⟨rfl,hd⟩;have HE:=J (And.intro (HE.o.1.trans (KR.of_ext hd.ext)) (HE.o.2.keep hd.ext));clear hd;go_wp2_with fail
 (try simp only[Exit.inBlock,Exit.then])
 first
  |refine bodyPost_ret (results_none rfl _ _ _) rfl ?_
  |refine bodyPost_end (results_none rfl _ _ _) rfl ?_
 exact⟨rfl,HE.o.1,HE.o.2⟩
theorem NM(g:Nat)(ts:List Tok)(tv:Value):Sk g ts tv 172:=by
 intro w a ns lg nv h;have dC:=J (fun W a ns lg nv h=>CX g W ts a true ns lg tv nv [45] h);rw[show str [45]= .string ⟨#[45]⟩ from rfl]at dC;simp only[Bool.not_true,Bool.false_and]at dC;have HE:Hid (KR g nv nv w w/\RdR g w ts a true ns lg tv nv):=J ⟨KR.of_ext (Ext.refl w),h⟩;clear h;go_enter Tryz.func172,Tryz.ntmps172;go_wp2_with fail;refine(dC.o _ _ _ _ _ HE.o.2).mono ?_
 rintro e w1 ⟨rfl,hd⟩;have HE:=J (And.intro (HE.o.1.trans (KR.of_ext hd.ext)) (HE.o.2.keep hd.ext));clear hd;go_wp2_with fail;refine(NG g ts tv _ _ _ _ _ HE.o.2).mono ?_
 rintro e w2 ⟨rfl,hk,hr⟩;have HE:=J (And.intro (HE.o.1.trans hk) hr);clear hk hr;go_wp2_with fail
 (try simp only[Exit.inBlock,Exit.then])
 first
  |refine bodyPost_ret (results_none rfl _ _ _) rfl ?_
  |refine bodyPost_end (results_none rfl _ _ _) rfl ?_
 exact⟨rfl,HE.o.1,HE.o.2⟩
theorem Lp(g:Nat)(ts:List Tok)(tv:Value):Sk g ts tv 128:=by
 intro w a ns lg nv h;have dC:=J (fun W a ns lg nv h=>CX g W ts a true ns lg tv nv [42] h);rw[show str [42]= .string ⟨#[42]⟩ from rfl]at dC;simp only[Bool.not_true,Bool.false_and]at dC;have eY:=J (fun W a ns lg nv h=>CX g W ts a true ns lg tv nv [47] h);rw[show str [47]= .string ⟨#[47]⟩ from rfl]at eY;simp only[Bool.not_true,Bool.false_and]at eY;have HE:Hid (KR g nv nv w w/\RdR g w ts a true ns lg tv nv):=J ⟨KR.of_ext (Ext.refl w),h⟩;clear h;go_enter Tryz.func128,Tryz.ntmps128;go_wp2_with fail;refine(NM g ts tv _ _ _ _ _ HE.o.2).mono ?_
 rintro e w1 ⟨rfl,hk,hr⟩;have HE:=J (And.intro (HE.o.1.trans hk) hr);clear hk hr;go_wp2_with fail;go_loopw [] (fun wr=>KR g nv nv w wr/\RdR g wr ts a true ns lg tv nv) (fun _=>0)
 case atStart=>exact HE.o
 case round=>
  have HE:=J hrel;clear hrel;go_wp2_with fail;refine(dC.o _ _ _ _ _ HE.o.2).mono ?_
  rintro e w2 ⟨rfl,hd⟩;have HE:=J (And.intro (HE.o.1.trans (KR.of_ext hd.ext)) (HE.o.2.keep hd.ext));clear hd;go_wp2_with fail;refine(eY.o _ _ _ _ _ HE.o.2).mono ?_
  rintro e w3 ⟨rfl,hd⟩;have HE:=J (And.intro (HE.o.1.trans (KR.of_ext hd.ext)) (HE.o.2.keep hd.ext));clear hd;go_wp2_with fail
  (try simp only[Exit.inBlock,Exit.then])
  first
   |refine bodyPost_ret (results_none rfl _ _ _) rfl ?_
   |refine bodyPost_end (results_none rfl _ _ _) rfl ?_
  exact⟨rfl,HE.o.1,HE.o.2⟩
theorem Ra(g:Nat)(ts:List Tok)(tv:Value):Sk g ts tv 66:=by
 intro w a ns lg nv h;have dC:=J (fun W a ns lg nv h=>CX g W ts a true ns lg tv nv [43] h);rw[show str [43]= .string ⟨#[43]⟩ from rfl]at dC;simp only[Bool.not_true,Bool.false_and]at dC;have eY:=J (fun W a ns lg nv h=>CX g W ts a true ns lg tv nv [45] h);rw[show str [45]= .string ⟨#[45]⟩ from rfl]at eY;simp only[Bool.not_true,Bool.false_and]at eY;have HE:Hid (KR g nv nv w w/\RdR g w ts a true ns lg tv nv):=J ⟨KR.of_ext (Ext.refl w),h⟩;clear h;go_enter Tryz.func66,Tryz.ntmps66;go_wp2_with fail;refine(Lp g ts tv _ _ _ _ _ HE.o.2).mono ?_
 rintro e w1 ⟨rfl,hk,hr⟩;have HE:=J (And.intro (HE.o.1.trans hk) hr);clear hk hr;go_wp2_with fail;go_loopw [] (fun wr=>KR g nv nv w wr/\RdR g wr ts a true ns lg tv nv) (fun _=>0)
 case atStart=>exact HE.o
 case round=>
  have HE:=J hrel;clear hrel;go_wp2_with fail;refine(dC.o _ _ _ _ _ HE.o.2).mono ?_
  rintro e w2 ⟨rfl,hd⟩;have HE:=J (And.intro (HE.o.1.trans (KR.of_ext hd.ext)) (HE.o.2.keep hd.ext));clear hd;go_wp2_with fail;refine(eY.o _ _ _ _ _ HE.o.2).mono ?_
  rintro e w3 ⟨rfl,hd⟩;have HE:=J (And.intro (HE.o.1.trans (KR.of_ext hd.ext)) (HE.o.2.keep hd.ext));clear hd;go_wp2_with fail
  (try simp only[Exit.inBlock,Exit.then])
  first
   |refine bodyPost_ret (results_none rfl _ _ _) rfl ?_
   |refine bodyPost_end (results_none rfl _ _ _) rfl ?_
  exact⟨rfl,HE.o.1,HE.o.2⟩
end Big
end Go.Proofs.YtkoaogkknnelaaaGreatDoor
