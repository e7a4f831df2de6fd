import Derived.Test.YtkoaogkknnelaaaGreatDoorM27
set_option linter.unusedVariables false
set_option linter.unusedSimpArgs false
set_option maxHeartbeats 8000000
set_option maxRecDepth 100000
namespace Go.Proofs.YtkoaogkknnelaaaGreatDoor
namespace Big
open Lib renaming hid → J
open Go.RowKit
def G7(x:Nd)(ns:List Nd):Int:=if x∈ns then (Cz x ns:Int) else-1
theorem SE{x:Nd}{ns:List Nd}{i:Nat}(hi:i<ns.length)(hx:ns[i]=x)(h:∀j (hj:j<ns.length),j<i->ns[j]≠x):G7 x ns=(i:Int):=by
 unfold G7;rw[if_pos (by rw[<-hx];exact qap hi),Lz hi hx h]
theorem QY{x:Nd}{ns:List Nd}(h:∀j (hj:j<ns.length),j<ns.length->ns[j]≠x):G7 x ns= -1:=by
 unfold G7;rw[if_neg];intro hm;obtain⟨j,hj,he⟩:=qby hm;exact h j hj hj he
theorem TA{x:Nd}{ns:List Nd}{i:Nat}(hi:i<ns.length)(h:∀j (hj:j<ns.length),j<i->ns[j]≠x)(hx:ns[i]≠x):∀j (hj:j<ns.length),j<i+1->ns[j]≠x:=by
 intro j hj jQ;rcases qam j i with h1|h1
 ·exact h j hj h1
 ·obtain rfl:j=i:=by omega
  exact hx
theorem KD(B g:Nat)(w:World)(ns:List Nd)(rv:Value)(h:GrR B g w ns rv)(x:Nd):
  Calls Tryz.prog 181 #[.pointer (some ⟨g,0,none⟩),ndV x] w fun e w'=>e= .returned (.int .i64 (G7 x ns))/\Ext w w':=by
 have jl:=J (fun i hi hx h=>SE (x:=x) (ns:=ns) (i:=i) hi hx h);have iQ:=J (fun h=>QY (x:=x) (ns:=ns) h);have HON:=J (fun i hi h hx=>TA (x:=x) (ns:=ns) (i:=i) hi h hx);have hfew:=h.few;obtain⟨A,c,jc,bj⟩:=h.row.read;subst jc;have cw:=J bj;have HG:=J h;obtain⟨z0,z1,z2,z3,z4⟩:=x;simp only[ndV];obtain⟨tz,sL⟩:∃tz:ByteArray,tz=⟨z4.toArray⟩:=⟨_,rfl⟩;have af:str z4= .string tz:=by rw[sL];rfl
 rw[af];have rp:tz.toList=z4:=by rw[sL];exact ByteArray.toList_mk _
 have k6:=J rp;clear af rp bj h sL;have aA:=J (Blk.new w 95 #[.int .i64 z0,.int .i64 z1,.int .i64 z2,.int .i64 z3,.string tz]);have ah:=J ((Ext.refl w).alloc (.cells #[.int .i64 z0,.int .i64 z1,.int .i64 z2,.int .i64 z3,.string tz] 95));obtain⟨w1,aB⟩:∃w1,w1=w.alloc (.cells #[.int .i64 z0,.int .i64 z1,.int .i64 z2,.int .i64 z3,.string tz] 95):=⟨_,rfl⟩;rw[<-aB]at aA ah;obtain⟨n,bB⟩:∃n,n=ns.length:=⟨_,rfl⟩;have HN:=J bB;rw[<-bB]at hfew;rw[<-bB]at HG;have g3:=(HG.o.keep ah.o).blk.cell 0;go_enter Tryz.func181,Tryz.ntmps181;go_upto_region 1 with fail;rw[<-aB];clear aB bB;obtain⟨k0,_,ea⟩:=(HG.o.keep ah.o).blk.oneG;clear g3;go_wp2_with fail;go_loopw [12] (fun s12 wr=>∃i:Nat,i<=n/\s12= .int .i64 (i:Int)/\Hid (∀j (hj:j<ns.length),j<i->ns[j]≠⟨z0,z1,z2,z3,z4⟩)/\Ext w1 wr) (fun s12 _=>n-(intOf s12).toNat)
 case atStart=>exact⟨0,qal _,rfl,J (fun j _ hj=>by omega),Ext.refl w1⟩
 case round=>
  obtain⟨i,hi,rfl,np,hx⟩:=hrel;have HX:=J hx;have lS:IntKind.i64.wrap ((i:Int)+1)=(i:Int)+1:=IntWalk.i64_in _ (by omega);by_cases hlt:i<n
  ·have hit:i<ns.length:=by rw[<-HN.o];exact hlt
   obtain⟨gb,o,rfl,bC,hc⟩:=cw.o (by have:=HN.o;omega);obtain⟨p0,p1,p2,p3,p4⟩:=hc i hit;have pQ:=ah.o.trans hx;rw[<-pQ.cell bC]at p0 p1 p2 p3 p4;have hgr:gb<wr.heap.size:=qaj bC pQ.size;have aP:=J (fun he=>jl.o i hit he np.o);have px:=J (fun he=>HON.o i hit np.o he);have dW:(0:Int)<=(i:Int):=by omega
   have hil:(i:Int)<(n:Int):=by omega
   clear hc pQ hx;generalize ns[i]=x at *;clear hit;obtain⟨y0,y1,y2,y3,y4⟩:=x;simp only at p0 p1 p2 p3 p4;have Xu:str y4= .string ⟨y4.toArray⟩:=rfl;rw[Xu]at p4;have Xs:(⟨y4.toArray⟩:ByteArray).toList=y4:=ByteArray.toList_mk _;have Ws:=J Xs;clear Xu Xs;have YB:=J (Blk.new wr 95 #[.int .i64 y0,.int .i64 y1,.int .i64 y2,.int .i64 y3,.string ⟨y4.toArray⟩]);have YA:=J ((Ext.refl wr).alloc (.cells #[.int .i64 y0,.int .i64 y1,.int .i64 y2,.int .i64 y3,.string ⟨y4.toArray⟩] 95));obtain⟨wy,UF⟩:∃wy,wy=wr.alloc (.cells #[.int .i64 y0,.int .i64 y1,.int .i64 y2,.int .i64 y3,.string ⟨y4.toArray⟩] 95):=⟨_,rfl⟩;rw[<-UF]at YB YA;go_upto_region 4 with fail;rw[<-UF];clear UF p0 p1 p2 p3 p4;have mV:=J (HX.o.trans YA.o);have q0:=(aA.o.ext mV.o).five;have r0:=YB.o.five;by_cases e0:y0=z0
   case neg=>
    have b0:(y0 == z0)=false:=by rw[beq_eq_false_iff_ne];exact e0
    have c0:(y0 != z0)=true:=by rw[bne_iff_ne];exact e0
    have dQ:=J (px.o (fun he=>e0 (by injection he)));clear e0 aP px;generalize (⟨y4.toArray⟩:ByteArray)=ty at *;go_wp2_with fail;go_roundw
    case rel=>exact⟨i+1,by omega,by go_num,dQ.o,mV.o⟩
    case measure=>simp[intOf];omega
   case pos=>
    subst e0;by_cases e1:y1=z1
    case neg=>
     have b1:(y1 == z1)=false:=by rw[beq_eq_false_iff_ne];exact e1
     have c1:(y1 != z1)=true:=by rw[bne_iff_ne];exact e1
     have dQ:=J (px.o (fun he=>e1 (by injection he)));clear e1 aP px;generalize (⟨y4.toArray⟩:ByteArray)=ty at *;go_wp2_with fail;go_roundw
     case rel=>exact⟨i+1,by omega,by go_num,dQ.o,mV.o⟩
     case measure=>simp[intOf];omega
    case pos=>
     subst e1;by_cases e2:y2=z2
     case neg=>
      have b2:(y2 == z2)=false:=by rw[beq_eq_false_iff_ne];exact e2
      have c2:(y2 != z2)=true:=by rw[bne_iff_ne];exact e2
      have dQ:=J (px.o (fun he=>e2 (by injection he)));clear e2 aP px;generalize (⟨y4.toArray⟩:ByteArray)=ty at *;go_wp2_with fail;go_roundw
      case rel=>exact⟨i+1,by omega,by go_num,dQ.o,mV.o⟩
      case measure=>simp[intOf];omega
     case pos=>
      subst e2;by_cases e3:y3=z3
      case neg=>
       have b3:(y3 == z3)=false:=by rw[beq_eq_false_iff_ne];exact e3
       have c3:(y3 != z3)=true:=by rw[bne_iff_ne];exact e3
       have dQ:=J (px.o (fun he=>e3 (by injection he)));clear e3 aP px;generalize (⟨y4.toArray⟩:ByteArray)=ty at *;go_wp2_with fail;go_roundw
       case rel=>exact⟨i+1,by omega,by go_num,dQ.o,mV.o⟩
       case measure=>simp[intOf];omega
      case pos=>
       subst e3;by_cases e4:y4=z4
       case neg=>
        have b4:((⟨y4.toArray⟩:ByteArray).toList == (tz:ByteArray).toList)=false:=by rw[Ws.o,k6.o,beq_eq_false_iff_ne];exact e4
        have c4:((⟨y4.toArray⟩:ByteArray).toList != (tz:ByteArray).toList)=true:=by rw[Ws.o,k6.o,bne_iff_ne];exact e4
        have dQ:=J (px.o (fun he=>e4 (by injection he)));clear e4 aP px;generalize (⟨y4.toArray⟩:ByteArray)=ty at *;go_wp2_with fail;go_roundw
        case rel=>exact⟨i+1,by omega,by go_num,dQ.o,mV.o⟩
        case measure=>simp[intOf];omega
       case pos=>
        subst e4;have b4:((⟨y4.toArray⟩:ByteArray).toList == (tz:ByteArray).toList)=true:=by rw[Ws.o,k6.o,beq_self_eq_true]
        have fj:=J (aP.o rfl);generalize (⟨y4.toArray⟩:ByteArray)=ty at *;clear aP px;go_wp2_with fail;go_ret;exact⟨by rw[fj.o];rfl,ah.o.trans mV.o⟩
  ·obtain rfl:i=n:=by omega
   have HE:=J (iQ.o (fun j hj _=>np.o j hj (by rw[HN.o];exact hj)));clear hx;go_wp2_with fail;go_ret;exact⟨by rw[HE.o];rfl,ah.o.trans HX.o⟩
def J4(B g:Nat)(ns:List Nd)(rv:Value)(x:Nd)(w:World)(e:Ending)(w':World):Prop:=
 ∃rv',e= .returned (.tuple #[.int .i64 ((Bc ns x).1:Int),.int .i64 0])/\KG g g rv rv' w w'/\GrR B g w' (Bc ns x).2 rv'
theorem RM(B g:Nat)(w:World)(ns:List Nd)(rv:Value)(h:GrR B g w ns rv)(x:Nd)(hx:CA ns.length x)(hin:x∈ns):
  Calls Tryz.prog 138 #[.pointer (some ⟨g,0,none⟩),ndV x] w (J4 B g ns rv x w):=by
 have et:=J (fun W h=>KC B g W ns rv h x hx);have iQ:=J (fun W h=>KD B g W ns rv h x);have xh:G7 x ns=(Cz x ns:Int):=by unfold G7;rw[if_pos hin]
 rw[xh]at iQ;have HG:=J h;have dV:(Bc ns x).1=Cz x ns:=by unfold Bc;rw[if_pos hin]
 have dM:(Bc ns x).2=ns:=by unfold Bc;rw[if_pos hin]
 have kF:=J dV;have lF:=J dM;clear dV dM hin xh hx;obtain⟨A,c,rfl⟩:=h.row.shape;clear h;generalize hpl:Cz x ns=pl at *;clear hpl;obtain⟨k,a,d,n,t⟩:=x;simp only[ndV]at et iQ ⊢;obtain⟨s,hs⟩:∃s:ByteArray,s=⟨t.toArray⟩:=⟨_,rfl⟩;have af:str t= .string s:=by rw[hs];rfl
 rw[af]at et iQ ⊢;clear hs af;have aA:=J (Blk.new w 95 #[.int .i64 k,.int .i64 a,.int .i64 d,.int .i64 n,.string s]);have ah:=J ((Ext.refl w).alloc (.cells #[.int .i64 k,.int .i64 a,.int .i64 d,.int .i64 n,.string s] 95));obtain⟨w1,aB⟩:∃w1,w1=w.alloc (.cells #[.int .i64 k,.int .i64 a,.int .i64 d,.int .i64 n,.string s] 95):=⟨_,rfl⟩;rw[<-aB]at aA ah;have q0:=aA.o.five;have ZN:(0:Int)<=(pl:Int):=by omega
 go_enter Tryz.func138,Tryz.ntmps138;go_upto_region 1 with fail;rw[<-aB];clear aB;go_wp2_with fail;refine(et.o w1 (HG.o.keep ah.o)).mono ?_
 rintro e w2 ⟨rfl,al⟩;have am:=J (ah.o.trans al);have aF:=J (aA.o.ext al);clear q0 al;have q0:=aF.o.five;go_wp2_with fail;refine(iQ.o w2 (HG.o.keep am.o)).mono ?_
 rintro e w3 ⟨rfl,ae⟩;have ag:=J (am.o.trans ae);clear q0 ae;go_wp2_with fail;go_ret2;refine⟨_,by rw[kF.o];rfl,KG.of_ext ag.o,?_⟩;rw[lF.o];exact HG.o.keep ag.o
theorem RN(B g:Nat)(w:World)(ns:List Nd)(rv:Value)(h:GrR B g w ns rv)(x:Nd)(hx:CA ns.length x)(hin:x∉ns)(br:ns.length<4096):
  Calls Tryz.prog 138 #[.pointer (some ⟨g,0,none⟩),ndV x] w (J4 B g ns rv x w):=by
 have et:=J (fun W h=>KC B g W ns rv h x hx);have iQ:=J (fun W h=>KD B g W ns rv h x);have xh:G7 x ns= -1:=by unfold G7;rw[if_neg hin]
 rw[xh]at iQ;have HG:=J h;have dV:(Bc ns x).1=ns.length:=by unfold Bc;rw[if_neg hin]
 have dM:(Bc ns x).2=ns++[x]:=by unfold Bc;rw[if_neg hin]
 have bV:Hid (Ax (ns++[x])):=J (by rw[<-dM];exact h.ok.put hx);have kF:=J dV;have lF:=J dM;clear dV dM hin xh hx;have jt:=h.lo;have j5:=J h.apart2;have Vr:=h.lt;obtain⟨A,c,rfl⟩:=h.row.shape;clear h;obtain⟨i0,hi,aR,hz1,aU⟩:=info_parts BI;obtain⟨k,a,d,n,t⟩:=x;simp only[ndV]at et iQ ⊢;obtain⟨s,hs⟩:∃s:ByteArray,s=⟨t.toArray⟩:=⟨_,rfl⟩;have qW:Hid (ndC ⟨k,a,d,n,t⟩=[.int .i64 k,.int .i64 a,.int .i64 d,.int .i64 n,.string s]):=J (by rw[hs];rfl);have af:str t= .string s:=by rw[hs];rfl
 rw[af]at et iQ ⊢;clear hs af;have aA:=J (Blk.new w 95 #[.int .i64 k,.int .i64 a,.int .i64 d,.int .i64 n,.string s]);have ah:=J ((Ext.refl w).alloc (.cells #[.int .i64 k,.int .i64 a,.int .i64 d,.int .i64 n,.string s] 95));obtain⟨w1,aB⟩:∃w1,w1=w.alloc (.cells #[.int .i64 k,.int .i64 a,.int .i64 d,.int .i64 n,.string s] 95):=⟨_,rfl⟩;have dU:w1.heap.size=w.heap.size+1:=by rw[aB];simp
 rw[<-aB]at aA ah;have q0:=aA.o.five;have mP:decide ((ns.length:Int)>=4096)=false:=decide_eq_false (by omega);have X9:decide (4096<=(ns.length:Int))=false:=decide_eq_false (by omega);go_enter Tryz.func138,Tryz.ntmps138;go_upto_region 1 with fail;rw[<-aB];clear aB;go_wp2_with fail;refine(et.o w1 (HG.o.keep ah.o)).mono ?_
 rintro e w2 ⟨rfl,al⟩;have am:=J (ah.o.trans al);have aF:=J (aA.o.ext al);clear q0 al;have q0:=aF.o.five;go_wp2_with fail;refine(iQ.o w2 (HG.o.keep am.o)).mono ?_
 rintro e wA ⟨rfl,ae⟩;have aM:=J (am.o.trans ae);have zV:=J (aF.o.ext ae);have pJ:=J (HG.o.keep aM.o);have Xx:w.heap.size<wA.heap.size:=by have h1:=ae.size;have h2:=aF.o.lt;omega
 clear q0 ae;have q0:=zV.o.five;obtain⟨k0,f0,ea⟩:=pJ.o.blk.oneG;go_upto_region 8 with fail;have jJ:Hid (∀w':World,(wA.alloc (.cells #[.int .i64 k,.int .i64 a,.int .i64 d,.int .i64 n,.string s] 95)).drew.grownBy w' (Value.slice A ns.length c).ownBlock->Blk w' g 71 #[.slice A ns.length c]/\wA.grownBy w' (Value.slice A ns.length c).ownBlock):=J (fun w' hgr=>by
  have lm:wA.grownBy w' (Value.slice A ns.length c).ownBlock:=by
   refine⟨hgr.os,hgr.tape,hgr.output,?_,fun i h1 h2=> ?_⟩
   ·have:=hgr.size;simp only[World.size_drew,World.size_alloc]at this;omega
   ·exact(hgr.block i (by simp only[World.size_drew,World.size_alloc];omega) h2).trans (Below.heap_alloc wA _ i h1)
  exact⟨(lm.block g ea (fun e=>j5.o e.symm)).trans pJ.o.blk,lm⟩)
 have gB:Hid (∀(j:Nat) (u:Value),[.int .i64 k,.int .i64 a,.int .i64 d,.int .i64 n,.string s][j]? =some u->(wA.alloc (.cells #[.int .i64 k,.int .i64 a,.int .i64 d,.int .i64 n,.string s] 95)).drew.cell? ((⟨wA.heap.size,0,none⟩:Addr).add j)=some u):=J (fun j u hj=>by
  have h1:=(Blk.new wA 95 #[.int .i64 k,.int .i64 a,.int .i64 d,.int .i64 n,.string s]).drew.cell j;have h2:(⟨wA.heap.size,0,none⟩:Addr).add j=⟨wA.heap.size,j,none⟩:=by
   unfold Addr.add;split
   ·rename_i h;subst h;rfl
   ·simp
  rw[h2,h1,<-hj];simp)
 have dt:Hid ((wA.alloc (.cells #[.int .i64 k,.int .i64 a,.int .i64 d,.int .i64 n,.string s] 95)).drew.ownsRow B 95 5 (.slice A ns.length c) ns.length (AN ns)):=J (Ac pJ.o.row (fun k _ hk=>Below.heap_alloc wA _ k hk));have bJ:Hid (ns.length+1<=maxLen):=J (by unfold maxLen;omega);have dQ:Hid ((ns.length+1)*48<=140737488355328):=J (by omega);have um:Hid (B<=(wA.alloc (.cells #[.int .i64 k,.int .i64 a,.int .i64 d,.int .i64 n,.string s] 95)).drew.heap.size):=J (by simp only[World.size_drew,World.size_alloc];omega)
 go_region_law (refine step_append_lies _ rfl (.tmp 27) (.tmp 29) 32 rfl B 95 i0 _ 5 48 Tryz.underlying32 hi aR hz1 aU rfl (by decide) _ ns.length (AN ns) rfl dt.o ⟨wA.heap.size,0,none⟩ 1 1 [.int .i64 k,.int .i64 a,.int .i64 d,.int .i64 n,.string s] rfl rfl gB.o (by simp[Value.oneCell']) (by decide) bJ.o dQ.o um.o _ rfl ?_;intro g' c' w' ac hgr hat hlt;have gK:=J ac;have dK:=J (jJ.o w' hgr);have fH:=J hat;clear ac hgr hat;have m0:=dK.o.1.oneG)
 all_goals
  have U4:g'≠g:=by
   rcases fH.o with h4|h4
   ·exact fun e=>j5.o (h4.trans (congrArg some e))
   ·simp only[World.size_drew,World.size_alloc]at h4;omega
  have en:=dK.o.1.set_ 0 (.slice (some ⟨g',0,none⟩) (ns.length+1) c');have au:=AD (w':=w'.setCell ⟨g,0,none⟩ (.slice (some ⟨g',0,none⟩) (ns.length+1) c')) gK.o (fun k hk=>Below.heap_setCell _ _ _ k (by
   simp only[Value.ownBlock,qaw]at hk;show k≠g;omega))
  have eM:∀k,k<w.heap.size->k≠g->(Value.slice A ns.length c).ownBlock≠some k->(w'.setCell ⟨g,0,none⟩ (.slice (some ⟨g',0,none⟩) (ns.length+1) c')).heap[k]? =w.heap[k]? :=fun k h1 h2 h3=>
   (Below.heap_setCell _ _ _ k h2).trans ((dK.o.2.block k (by omega) (fun e=>h3 e.symm)).trans (aM.o.block k h1))
  have ws:(w'.setCell ⟨g,0,none⟩ (.slice (some ⟨g',0,none⟩) (ns.length+1) c')).os=w.os/\(w'.setCell ⟨g,0,none⟩ (.slice (some ⟨g',0,none⟩) (ns.length+1) c')).tape=w.tape/\(w'.setCell ⟨g,0,none⟩ (.slice (some ⟨g',0,none⟩) (ns.length+1) c')).output=w.output/\wA.heap.size<=(w'.setCell ⟨g,0,none⟩ (.slice (some ⟨g',0,none⟩) (ns.length+1) c')).heap.size:=by
   have h2:=Below.setCell (Below.refl g w') (p:=⟨g,0,none⟩) (qad _) (.slice (some ⟨g',0,none⟩) (ns.length+1) c');have h4:=dK.o.2;exact⟨h2.os.trans (h4.os.trans aM.o.os),h2.tape.trans (h4.tape.trans aM.o.tape),h2.output.trans (h4.output.trans aM.o.output),qaf h4.size h2.size⟩
  generalize (w'.setCell ⟨g,0,none⟩ (.slice (some ⟨g',0,none⟩) (ns.length+1) c'))=wB at *;have lc:=J en;have i6:=J au;have kO:=J eM;have nc:=J ws;clear q0 k0 f0 m0 au eM ws;obtain⟨k0,f0,Vq⟩:=Blk.oneG en;clear en;have aB:IntKind.i64.wrap ((ns.length:Int)+1-1)=(ns.length:Int):=by rw[IntKind.wrap_i64];omega
  have aY:IntKind.i64.wrap (((ns.length+1:Nat):Int)-1)=(ns.length:Int):=by rw[IntKind.wrap_i64];omega
  go_wp2_with fail;go_ret2;have Zf:=nc.o.2.2.2;refine⟨(.slice (some ⟨g',0,none⟩) (ns.length+1) c'),by rw[kF.o];rfl,⟨nc.o.1,nc.o.2.1,nc.o.2.2.1,by omega,fun k h1 h2 h3 h4=>kO.o k h1 h2 h4,fun j hj=> ?_⟩,?_⟩
  ·have h5:g'=j:=qaA hj;rcases fH.o with h4|h4
   ·exact .inl (h4.trans (congrArg some h5))
   ·simp only[World.size_drew,World.size_alloc]at h4;exact .inr (by omega)
  ·rw[lF.o];refine⟨lc.o,?_,jt,bV.o,by simp only[qab,qae];omega⟩;unfold Ai;rw[Bl,Bw,qW.o,qab,qae];exact i6.o
theorem RO(B g:Nat)(w:World)(ns:List Nd)(rv:Value)(h:GrR B g w ns rv)(x:Nd)(hx:CA ns.length x)(br:ns.length<4096):
  Calls Tryz.prog 138 #[.pointer (some ⟨g,0,none⟩),ndV x] w (J4 B g ns rv x w):=by
 by_cases hin:x∈ns
 ·exact RM B g w ns rv h x hx hin
 ·exact RN B g w ns rv h x hx hin br
theorem AZ.shape{B n:Nat}{w:World}{v:Value}{S:List Nat}(h:AZ B w v n S):∃A c,v= .slice A n c:=Ao h
theorem AZ.pos{B n:Nat}{w:World}{v:Value}{S:List Nat}(h:AZ B w v n S)(hn:0<n):∃g c,v= .slice (some ⟨g,0,none⟩) n c:=by
 rcases h.2 with ⟨_,h2⟩|⟨g,cap,cur,hv,_⟩
 ·omega
 ·exact⟨g,cap,hv⟩
theorem AZ.nil(B:Nat)(w:World):AZ B w (.slice none 0 0) 0 []:=World.ownsRow_nil w B _ 1
def Fo(B g:Nat)(ns:List Nd)(rv:Value)(e:Ex)(w:World)(i:Nat)(at_:Value)(wr:World):Prop:=
 ∃rv',KG g g rv rv' w wr/\GrR B g wr (BJ ([],ns) ((Ag 0 e).take i)).2 rv'/\AZ w.heap.size wr at_ i (BJ ([],ns) ((Ag 0 e).take i)).1/\EG rv' at_
theorem Fo.start{B g:Nat}{ns:List Nd}{rv:Value}{e:Ex}{w w1:World}(h:GrR B g w ns rv)(hx:Ext w w1):Fo B g ns rv e w 0 (.slice none 0 0) w1:=
 ⟨rv,KG.of_ext hx,by rw[qaK];exact h.keep hx,by rw[qaK];exact AZ.nil _ _,fun _ _ h2=>by cases h2⟩
theorem Fo.next {B g i g6:Nat} {ns gs:List Nd} {rv Ut rv2:Value} {e:Ex} {w wr w1 w2 w6:World} {at_ at2:Value} {ids:List Nat} {o:Obj} {x:Nd} (h0:GrR B g w ns rv)
  (af:BJ ([],ns) ((Ag 0 e).take (i+1))=(ids++[(Bc gs (B6 ids x)).1],(Bc gs (B6 ids x)).2))
  (h1:KG g g rv Ut w wr) (ha:EG Ut at_) (hr:AZ w.heap.size wr at_ i ids) (hx:Ext wr w1) (hk:KG g g Ut rv2 w1 w2) (hp:GrR B g w2 (Bc gs (B6 ids x)).2 rv2)
  (hgr:(w2.alloc o).grownBy w6 at_.ownBlock) (hat:at_.ownBlock=some g6\/g6=(w2.alloc o).heap.size) (hu:at2.ownBlock=some g6)
  (hn:AZ w.heap.size w6 at2 (i+1) (ids++[(Bc gs (B6 ids x)).1])):Fo B g ns rv e w (i+1) at2 w6:=by
 have hs:(w2.alloc o).heap.size=w2.heap.size+1:=by simp
 have bC:=h0.lt;have eS:=(KG.of_ext hx).trans hk;have hsz:=h1.size;have jp:=eS.size;have mS:at_.ownBlock≠some g:=fun he=>by have:=(hr.blt g he).1;omega
 have jV:∀j,rv2.ownBlock=some j->at_.ownBlock≠some j:=fun j hj he=>by
  rcases eS.move j hj with h5|h5
  ·exact ha j h5 he
  ·have:=(hr.blt j he).2;omega
 have aV:∀j,j<w2.heap.size->at_.ownBlock≠some j->w6.heap[j]? =w2.heap[j]? :=fun j hj hne=>(hgr.block j (by omega) (fun e=>hne e.symm)).trans (Below.heap_alloc w2 o j hj)
 have vX:=hgr.size;have ks:=hp.lt;refine⟨rv2,?_,?_,?_,?_⟩
 ·have k2:=h1.trans eS;refine⟨hgr.os.trans k2.os,hgr.tape.trans k2.tape,hgr.output.trans k2.output,by omega,fun k p1 p2 p3 p4=>(aV k (by have:=k2.size;omega) (fun he=>by have:=(hr.blt k he).1;omega)).trans (k2.block k p1 p2 p3 p4),k2.move⟩
 ·rw[af];exact⟨(aV g ks mS).trans hp.blk,AD hp.row (fun k hk'=>aV k (Aj hp.row hk') (jV k hk')),hp.lo,hp.ok,hp.few⟩
 ·rw[af];exact hn
 ·intro j hj he;rw[hu]at he;injection he with he
  subst he;rcases hat with h5|h5
  ·exact jV g6 hj h5
  ·have:=Aj hp.row hj;omega
def NA(B g:Nat)(ns:List Nd)(rv:Value)(e:Ex)(w:World)(r:Ending)(w':World):Prop:=
 ∃(rv':Value) (gi ci:Nat) (more:List Nat),r= .returned (.tuple #[.slice (some ⟨gi,0,none⟩) e.size ci,.int .i64 0])/\more.length+1=e.size/\w'.cell? ⟨gi,more.length,none⟩=some (.int .i64 ((AC ns e).1:Int))/\KG g g rv rv' w w'/\GrR B g w' (AC ns e).2 rv'
theorem RQ(B g:Nat)(w:World)(ns:List Nd)(rv v:Value)(e:Ex)(h:GrR B g w ns rv)(hv:CS g g rv w v (Ag 0 e))(be:e.Good)(hsz:e.size<=200)(jw:e.depth<=40)(br:ns.length+e.size<=4096):
  Calls Tryz.prog 79 #[.pointer (some ⟨g,0,none⟩),v] w (NA B g ns rv e w):=by
 have kD:=J (F2 w v (Ag 0 e) hv.read (by rw[Ak];omega) (Gc e be 0));rw[Ew e be,decide_eq_true ⟨hsz,jw⟩]at kD;have HG:=J h;have HV:=J hv;obtain⟨i0,i1,aR,hz1,aU⟩:=info_parts DJ;obtain⟨n,hn⟩:∃n,n=e.size:=⟨_,rfl⟩;have lq:=Ak e 0;obtain⟨A1,c1,rfl,_⟩:=hv;rw[lq,<-hn]at kD HV ⊢;unfold NA;rw[<-hn];have HN:=J hn;have jk:=J lq;have dA:1<=n:=by rw[hn];exact e.size_pos
 have hn2:n<=200:=by omega
 obtain⟨A,c,rfl⟩:=h.row.shape;have eQ:=J be;have Wy:=J br;have k0:=h.blk.oneG;clear h hn lq be hsz jw br k0;go_enter Tryz.func79,Tryz.ntmps79;go_wp2_with fail;refine kD.o.mono ?_
 rintro r w1 ⟨rfl,ar⟩;have ah:=J ar;have k0:=(HG.o.keep ar).blk.oneG;clear ar;have aB:∀i:Nat,i<n->IntKind.i64.wrap ((i:Int)+1)=(i:Int)+1:=fun i hi=>IntWalk.i64_in _ (by omega)
 have yb:=J aB;clear aB;go_wp2_with fail;go_loopw [7,22] (fun s7 Uq wr=>∃i:Nat,i<=n/\Uq= .int .i64 (i:Int)/\Fo B g ns (.slice A ns.length c) e w i s7 wr) (fun _ Uq _=>n-(intOf Uq).toNat)
 case atStart=>exact⟨0,qal _,rfl,Fo.start HG.o ah.o⟩
 case round=>
  obtain⟨i,hi,rfl,aL⟩:=hrel;by_cases hlt:i<n
  ·obtain⟨bh,cd,hgr,au,jV⟩:=aL;have uW:i<e.size:=by rw[<-HN.o];exact hlt
   have hl:i<(Ag 0 e).length:=by rw[Ak];exact uW
   have jS:=FG.at HG.o.ok eQ.o i (qaR uW);have an:=EW e eQ.o 0 i _ (qaa hl);rw[qaF]at an;have jd:=JC jS an;have jz:=jS.big;have ak:=jS.len;have bC:=HG.o.lt;have eL:=HV.o.keep cd;have aP:=J (GF ([],ns) (Ag 0 e) i hl);obtain⟨A2,c2,he2,dG⟩:=eL;obtain⟨q,o,hA,hq,p2,p3,p4,bZ⟩:=dG (by omega);obtain⟨y0,y1,y2,y3,y4⟩:=bZ i hl;simp only[Value.slice.injEq]at he2;obtain⟨rfl,jr,rfl⟩:=he2;clear jr;subst hA;have hil:(i:Int)<(n:Int):=by omega
   have dW:(0:Int)<=(i:Int):=by omega
   have lS:=yb.o i hlt;clear dG bZ p4;generalize af:BJ ([],ns) (List.take i (Ag 0 e))=st at *;clear af;obtain⟨ids,gs⟩:=st;simp only at hgr au ak jS jd jz;rw[GO]at aP;simp only at aP;have yY:=jV;have cV:=J (fun rv2 w1 w2 w6 at2 g6 o hx hk hp hgr hat hu hn=>Fo.next (rv2:=rv2) (w1:=w1) (w2:=w2) (w6:=w6) (at2:=at2) (g6:=g6) (o:=o) HG.o aP.o cd jV au hx hk hp hgr hat hu hn);have aE:=J (fun W h=>RO B g W gs bh h _ jd (by have:=Wy.o;omega));obtain⟨A3,c3,rfl⟩:=au.shape;have ko:∀j,j<i->∃ga,A3=some ⟨ga,0,none⟩/\ga<wr.heap.size/\wr.cell? ⟨ga,j,none⟩=some (.int .i64 ((ids.getD j 0:Nat):Int)):=fun j hj=>by
    obtain⟨ga,ca,he⟩:=au.pos (by omega);injection he with he1 he2 he3
    subst he1;exact⟨ga,rfl,(au.blt ga rfl).2,au.get j hj⟩
   have mn:=J ko;have cr:=J au;have f7:=J hgr;have cH:=J cd;have ZC:=cd.size;have fC:=an.args_len;have gL:=J an.oper;clear ko au hgr cd jV jS jd aP;generalize (Ag 0 e)[i]=x at *;clear hl;have qg:Hid (EG bh (.slice A3 i c3)):=J yY;clear yY;rcases an with ⟨k,t,rfl,ho⟩|⟨k,nn,j,rfl,ho,hj⟩|⟨k,j,jq,rfl,hk,hj,rG⟩
   ·have kj:B6 ids ⟨(k:Int),0,0,0,t⟩=⟨(k:Int),0,0,0,t⟩:=by
     have:=ho.lt;unfold B6;rw[if_neg (by simp only;omega),if_neg (by simp only;omega)]
    rw[kj]at aE cV;rw[Cd ho]at gL;simp only at gL;have az:=J (fun W=>Bf W (k:Int));rw[gL.o]at az;clear kj ho gL;simp only[ndV]at aE;simp only at y0 y1 y2 y3 y4;generalize hkk:(k:Int)=kk at *;obtain⟨s,hs⟩:∃s:ByteArray,s=⟨(t:List UInt8).toArray⟩:=⟨_,rfl⟩;have af:str t= .string s:=by rw[hs];rfl
    rw[af]at y4 aE;clear hs af hkk;have aW:=J (Blk.new wr 95 #[.int .i64 kk,.int .i64 0,.int .i64 0,.int .i64 0,.string s]);have aN:=J ((Ext.refl wr).alloc (.cells #[.int .i64 kk,.int .i64 0,.int .i64 0,.int .i64 0,.string s] 95));obtain⟨w7,dk⟩:∃w7,w7=wr.alloc (.cells #[.int .i64 kk,.int .i64 0,.int .i64 0,.int .i64 0,.string s] 95):=⟨_,rfl⟩;rw[<-dk]at aW aN;have q0:=aW.o.five;go_upto_region 8 with fail;rw[<-dk];clear dk y0 y1 y2 y3 y4;go_wp2_with fail;refine(az.o _).mono ?_
    rintro r w8 ⟨rfl,rfl⟩;go_wp2_with fail;refine(az.o _).mono ?_
    rintro r w9 ⟨rfl,rfl⟩;go_wp2_with fail;refine(aE.o w7 (f7.o.keep aN.o)).mono ?_
    rintro r dj ⟨nv2,rfl,cQ,bQ⟩;have pG:=J cQ;have pK:=J bQ;have iF:=(KG.of_ext aN.o).trans cQ;have vZ:wr.heap.size<=dj.heap.size:=iF.size;have eu:AZ w.heap.size dj (.slice A3 i c3) i ids:=AD cr.o (fun k hk=>iF.block k (Aj cr.o hk) (fun e=>by have:=(cr.o.blt k hk).1;omega) (fun e=>by have:=(cr.o.blt k hk).1;omega) (fun e=>qg.o k e hk));have kE:=J eu;clear iF eu cQ bQ q0;have fe:=J (fun w6 at2 g6 o hgr hat hu hn=>cV.o nv2 w7 dj w6 at2 g6 o aN.o pG.o pK.o hgr hat hu hn);generalize (Bc gs _).1=pid at *;have aI:Hid (i+1<=maxLen):=J (by unfold maxLen;omega);have aH:Hid ((i+1)*8<=140737488355328):=J (by omega);have bp:Hid ((dj.alloc (.cells #[.int .i64 (pid:Int)] 3)).ownsRow w.heap.size 3 1 (.slice A3 i c3) i (ids.map din)):=J (Ac kE.o (fun k _ hk=>Below.heap_alloc _ _ k hk));have a9:=J (AS dj 3 [.int .i64 (pid:Int)]);have aO:Hid (w.heap.size<=(dj.alloc (.cells #[.int .i64 (pid:Int)] 3)).heap.size):=J (by simp;omega);go_wp2_with (at_builtin;go_must (refine wpList_append_lies _ rfl _ _ 41 rfl w.heap.size 3 i0 _ 1 8 Tryz.underlying41 i1 aR hz1 aU rfl (by decide) (.slice A3 i c3) i (ids.map din) rfl bp.o ⟨dj.heap.size,0,none⟩ 1 1 [.int .i64 (pid:Int)] rfl rfl a9.o (by simp[Value.oneCell']) (by decide) aI.o aH.o aO.o _ rfl ?_;intro g6 c6 w6 aq aw aG bu;have cj:Hid (AZ w.heap.size w6 (.slice (some ⟨g6,0,none⟩) (i+1) c6) (i+1) (ids++[pid])):=J (by unfold AZ;rw[qaB];exact aq);have eH:=J (fe.o w6 (.slice (some ⟨g6,0,none⟩) (i+1) c6) g6 _ aw aG rfl cj.o);clear aq aw aG bu));go_roundw
    case rel=>exact⟨i+1,hlt,by go_num,eH.o⟩
    case measure=>simp[intOf];omega
   ·have kj:B6 ids ⟨(k:Int),(j:Int),0,nn,[]⟩=⟨(k:Int),((ids.getD j 0:Nat):Int),0,nn,[]⟩:=by
     have:=ho.1;unfold B6;rw[if_pos (by simp only;omega),if_neg (by simp only;omega)];rfl
    rw[kj]at aE cV;rw[CG ho]at gL;simp only at gL;have az:=J (fun W=>Bf W (k:Int));rw[gL.o]at az;obtain⟨ga,rfl,fJ,pI⟩:=mn.o j hj;have uB:=J pI;have qD:(j:Int)<(i:Int):=by omega
    have mO:(0:Int)<=(j:Int):=by omega
    clear kj ho hj gL pI;generalize ((ids.getD j 0:Nat):Int)=va at *;simp only[ndV]at aE;simp only at y0 y1 y2 y3 y4;generalize hkk:(k:Int)=kk at *;obtain⟨s,hs⟩:∃s:ByteArray,s=⟨([]:List UInt8).toArray⟩:=⟨_,rfl⟩;have af:str []= .string s:=by rw[hs];rfl
    rw[af]at y4 aE;clear hs af hkk;have aW:=J (Blk.new wr 95 #[.int .i64 kk,.int .i64 (j:Int),.int .i64 0,.int .i64 nn,.string s]);have aN:=J ((Ext.refl wr).alloc (.cells #[.int .i64 kk,.int .i64 (j:Int),.int .i64 0,.int .i64 nn,.string s] 95));obtain⟨w7,dk⟩:∃w7,w7=wr.alloc (.cells #[.int .i64 kk,.int .i64 (j:Int),.int .i64 0,.int .i64 nn,.string s] 95):=⟨_,rfl⟩;rw[<-dk]at aW aN;have q0:=aW.o.five;go_upto_region 8 with fail;rw[<-dk];clear dk y0 y1 y2 y3 y4;go_wp2_with fail;refine(az.o _).mono ?_
    rintro r w8 ⟨rfl,rfl⟩;have v0:=(aN.o.cell fJ).trans uB.o;have f1:=aW.o.frozen 1;have fl:=J (aW.o.set_ 1 (.int .i64 va));have dI:=J (aN.o.setCell (p:=⟨wr.heap.size,1,none⟩) (qad _) (.int .i64 va));have r0:=Blk.five fl.o;go_wp2_with fail;refine(az.o _).mono ?_
    rintro r w9 ⟨rfl,rfl⟩;go_wp2_with fail;refine(aE.o (w7.setCell ⟨wr.heap.size,1,none⟩ (.int .i64 va)) (f7.o.keep dI.o)).mono ?_
    rintro r dj ⟨nv2,rfl,cQ,bQ⟩;have pG:=J cQ;have pK:=J bQ;have iF:=(KG.of_ext dI.o).trans cQ;have vZ:wr.heap.size<=dj.heap.size:=iF.size;have eu:AZ w.heap.size dj (.slice (some ⟨ga,0,none⟩) i c3) i ids:=AD cr.o (fun k hk=>iF.block k (Aj cr.o hk) (fun e=>by have:=(cr.o.blt k hk).1;omega) (fun e=>by have:=(cr.o.blt k hk).1;omega) (fun e=>qg.o k e hk));have kE:=J eu;clear iF eu cQ bQ q0;have fe:=J (fun w6 at2 g6 o hgr hat hu hn=>cV.o nv2 (w7.setCell ⟨wr.heap.size,1,none⟩ (.int .i64 va)) dj w6 at2 g6 o dI.o pG.o pK.o hgr hat hu hn);generalize (Bc gs _).1=pid at *;have aI:Hid (i+1<=maxLen):=J (by unfold maxLen;omega);have aH:Hid ((i+1)*8<=140737488355328):=J (by omega);have bp:Hid ((dj.alloc (.cells #[.int .i64 (pid:Int)] 3)).ownsRow w.heap.size 3 1 (.slice (some ⟨ga,0,none⟩) i c3) i (ids.map din)):=J (Ac kE.o (fun k _ hk=>Below.heap_alloc _ _ k hk));have a9:=J (AS dj 3 [.int .i64 (pid:Int)]);have aO:Hid (w.heap.size<=(dj.alloc (.cells #[.int .i64 (pid:Int)] 3)).heap.size):=J (by simp;omega);go_wp2_with (at_builtin;go_must (refine wpList_append_lies _ rfl _ _ 41 rfl w.heap.size 3 i0 _ 1 8 Tryz.underlying41 i1 aR hz1 aU rfl (by decide) (.slice (some ⟨ga,0,none⟩) i c3) i (ids.map din) rfl bp.o ⟨dj.heap.size,0,none⟩ 1 1 [.int .i64 (pid:Int)] rfl rfl a9.o (by simp[Value.oneCell']) (by decide) aI.o aH.o aO.o _ rfl ?_;intro g6 c6 w6 aq aw aG bu;have cj:Hid (AZ w.heap.size w6 (.slice (some ⟨g6,0,none⟩) (i+1) c6) (i+1) (ids++[pid])):=J (by unfold AZ;rw[qaB];exact aq);have eH:=J (fe.o w6 (.slice (some ⟨g6,0,none⟩) (i+1) c6) g6 _ aw aG rfl cj.o);clear aq aw aG bu));go_roundw
    case rel=>exact⟨i+1,hlt,by go_num,eH.o⟩
    case measure=>simp[intOf];omega
   ·have kj:B6 ids ⟨(k:Int),(j:Int),(jq:Int),0,[]⟩=⟨(k:Int),((ids.getD j 0:Nat):Int),((ids.getD jq 0:Nat):Int),0,[]⟩:=by
     unfold B6;rw[if_pos (by simp only;omega),if_pos (by simp only;omega)];rfl
    rw[kj]at aE cV;rw[B0 hk]at gL;simp only at gL;have az:=J (fun W=>Bf W (k:Int));rw[gL.o]at az;obtain⟨ga,rfl,fJ,pI⟩:=mn.o j hj;obtain⟨gb,cW,_,yK⟩:=mn.o jq rG;obtain rfl:ga=gb:=by injection cW with cW;injection cW
    have uB:=J pI;have yL:=J yK;have qD:(j:Int)<(i:Int):=by omega
    have mO:(0:Int)<=(j:Int):=by omega
    have hjq1:(jq:Int)<(i:Int):=by omega
    have hjq0:(0:Int)<=(jq:Int):=by omega
    clear kj hk hj rG gL pI yK cW;generalize ((ids.getD j 0:Nat):Int)=va at *;generalize ((ids.getD jq 0:Nat):Int)=vb at *;simp only[ndV]at aE;simp only at y0 y1 y2 y3 y4;generalize hkk:(k:Int)=kk at *;obtain⟨s,hs⟩:∃s:ByteArray,s=⟨([]:List UInt8).toArray⟩:=⟨_,rfl⟩;have af:str []= .string s:=by rw[hs];rfl
    rw[af]at y4 aE;clear hs af hkk;have aW:=J (Blk.new wr 95 #[.int .i64 kk,.int .i64 (j:Int),.int .i64 (jq:Int),.int .i64 0,.string s]);have aN:=J ((Ext.refl wr).alloc (.cells #[.int .i64 kk,.int .i64 (j:Int),.int .i64 (jq:Int),.int .i64 0,.string s] 95));obtain⟨w7,dk⟩:∃w7,w7=wr.alloc (.cells #[.int .i64 kk,.int .i64 (j:Int),.int .i64 (jq:Int),.int .i64 0,.string s] 95):=⟨_,rfl⟩;rw[<-dk]at aW aN;have q0:=aW.o.five;go_upto_region 8 with fail;rw[<-dk];clear dk y0 y1 y2 y3 y4;go_wp2_with fail;refine(az.o _).mono ?_
    rintro r w8 ⟨rfl,rfl⟩;have v0:=(aN.o.cell fJ).trans uB.o;have f1:=aW.o.frozen 1;have fl:=J (aW.o.set_ 1 (.int .i64 va));have dI:=J (aN.o.setCell (p:=⟨wr.heap.size,1,none⟩) (qad _) (.int .i64 va));have r0:=Blk.five fl.o;have v1:=(dI.o.cell fJ).trans yL.o;have f2:=fl.o.frozen 2;have uo:=J (Blk.set_ fl.o 2 (.int .i64 vb));have jB:=J (dI.o.setCell (p:=⟨wr.heap.size,2,none⟩) (qad _) (.int .i64 vb));have t0:=Blk.five uo.o;go_wp2_with fail;refine(az.o _).mono ?_
    rintro r w9 ⟨rfl,rfl⟩;go_wp2_with fail;refine(aE.o ((w7.setCell ⟨wr.heap.size,1,none⟩ (.int .i64 va)).setCell ⟨wr.heap.size,2,none⟩ (.int .i64 vb)) (f7.o.keep jB.o)).mono ?_
    rintro r dj ⟨nv2,rfl,cQ,bQ⟩;have pG:=J cQ;have pK:=J bQ;have iF:=(KG.of_ext jB.o).trans cQ;have vZ:wr.heap.size<=dj.heap.size:=iF.size;have eu:AZ w.heap.size dj (.slice (some ⟨ga,0,none⟩) i c3) i ids:=AD cr.o (fun k hk=>iF.block k (Aj cr.o hk) (fun e=>by have:=(cr.o.blt k hk).1;omega) (fun e=>by have:=(cr.o.blt k hk).1;omega) (fun e=>qg.o k e hk));have kE:=J eu;clear iF eu cQ bQ q0;have fe:=J (fun w6 at2 g6 o hgr hat hu hn=>cV.o nv2 ((w7.setCell ⟨wr.heap.size,1,none⟩ (.int .i64 va)).setCell ⟨wr.heap.size,2,none⟩ (.int .i64 vb)) dj w6 at2 g6 o jB.o pG.o pK.o hgr hat hu hn);generalize (Bc gs _).1=pid at *;have aI:Hid (i+1<=maxLen):=J (by unfold maxLen;omega);have aH:Hid ((i+1)*8<=140737488355328):=J (by omega);have bp:Hid ((dj.alloc (.cells #[.int .i64 (pid:Int)] 3)).ownsRow w.heap.size 3 1 (.slice (some ⟨ga,0,none⟩) i c3) i (ids.map din)):=J (Ac kE.o (fun k _ hk=>Below.heap_alloc _ _ k hk));have a9:=J (AS dj 3 [.int .i64 (pid:Int)]);have aO:Hid (w.heap.size<=(dj.alloc (.cells #[.int .i64 (pid:Int)] 3)).heap.size):=J (by simp;omega);go_wp2_with (at_builtin;go_must (refine wpList_append_lies _ rfl _ _ 41 rfl w.heap.size 3 i0 _ 1 8 Tryz.underlying41 i1 aR hz1 aU rfl (by decide) (.slice (some ⟨ga,0,none⟩) i c3) i (ids.map din) rfl bp.o ⟨dj.heap.size,0,none⟩ 1 1 [.int .i64 (pid:Int)] rfl rfl a9.o (by simp[Value.oneCell']) (by decide) aI.o aH.o aO.o _ rfl ?_;intro g6 c6 w6 aq aw aG bu;have cj:Hid (AZ w.heap.size w6 (.slice (some ⟨g6,0,none⟩) (i+1) c6) (i+1) (ids++[pid])):=J (by unfold AZ;rw[qaB];exact aq);have eH:=J (fe.o w6 (.slice (some ⟨g6,0,none⟩) (i+1) c6) g6 _ aw aG rfl cj.o);clear aq aw aG bu));go_roundw
    case rel=>exact⟨i+1,hlt,by go_num,eH.o⟩
    case measure=>simp[intOf];omega
  ·obtain⟨bh,cd,hgr,au,jV⟩:=aL;obtain⟨more,lY,oP⟩:=K2 e eQ.o ns;have hin:i=n:=by omega
   rw[qak (by rw[Ak,<-HN.o];omega),oP]at hgr au;simp only at hgr au;obtain⟨gi,ci,rfl⟩:=au.pos (by omega);have aa:=au.get more.length (by have:=HN.o;omega);rw[BM _ _ rfl]at aa;have cH:=J cd;have f7:=J hgr;have kM:=J aa;have nI:=J lY;clear cd hgr au jV oP lY aa;go_wp2_with fail;go_ret2;exact⟨bh,gi,ci,more,by rw[hin];rfl,by rw[HN.o];exact nI.o,kM.o,cH.o,f7.o⟩
def DV(a0 B g:Nat)(w:World)(L:Value)(l:List Int)(a:Nat):Prop:=BR B g w L l a/\a0<=a
section
variable {a0 B g:Nat} {w w':World} {L:Value} {l:List Int} {a:Nat}
theorem DV.lt(h:DV a0 B g w L l a):g<B:=h.1.lt
theorem DV.blk(h:DV a0 B g w L l a):Blk w g 129 #[L,.int .i64 (a:Int)]:=h.1.blk
theorem DV.below(h:DV a0 B g w L l a)(hk:Below B w w'):DV a0 B g w' L l a:=⟨h.1.below hk,h.2⟩
theorem G1(l:List Int)(a:Nat):a<=CP l a:=by unfold CP;split<;>omega
end
theorem QD{a0:Nat}(B g:Nat)(w:World)(L:Value)(l:List Int)(a:Nat)(h:DV a0 B g w L l a):Calls Tryz.prog 76 #[.pointer (some ⟨g,0,none⟩)] w fun e w'=>e= .returned (.bool (decide (a<l.length)))/\Dr w w':=ML B g w L l a h.1
theorem Hw{a0:Nat}(B g:Nat)(w:World)(L:Value)(l:List Int)(a:Nat)(n:Int)(h:DV a0 B g w L l a)(hn:1<=n)(hn2:n<=4611686018427387904):Calls Tryz.prog 78 #[.pointer (some ⟨g,0,none⟩),.int .i64 n] w fun e w'=>e= .returned (.int .i64 (Cm l a n))/\DV a0 B g w' L l (CP l a)/\(∀B',KB B' g w w'):=
 (DH B g w L l a n h.1 hn hn2).mono fun _ _ ⟨h1,h2,h3⟩=>⟨h1,⟨h2,qaf h.2 (G1 l a)⟩,h3⟩
theorem Jf{a0:Nat}(B g:Nat)(w:World)(L:Value)(l:List Int)(a:Nat)(lo hi:Int)(h:DV a0 B g w L l a)(h1:lo<=hi)(h2: -1000000<=lo)(h3:hi<=1000000):Calls Tryz.prog 77 #[.pointer (some ⟨g,0,none⟩),.int .i64 lo,.int .i64 hi] w fun e w'=>e= .returned (.int .i64 (lo+Cm l a (hi-lo+1)))/\DV a0 B g w' L l (CP l a)/\(∀B',KB B' g w w'):=
 (KI B g w L l a lo hi h.1 h1 h2 h3).mono fun _ _ ⟨p1,p2,p3⟩=>⟨p1,⟨p2,qaf h.2 (G1 l a)⟩,p3⟩
theorem It{a0:Nat}(B g:Nat)(w:World)(L:Value)(l:List Int)(a:Nat)(h:DV a0 B g w L l a)(hB:B<=w.heap.size):Calls Tryz.prog 137 #[.pointer (some ⟨g,0,none⟩)] w fun e w'=>∃t,e= .returned (str t)/\Bz t=0/\t.length<=5/\DV a0 B g w' L l (CP l a)/\KB w.heap.size g w w':=
 (Og B g w L l a h.1 hB).mono fun _ _ ⟨t,p0,p1,p2,p3,p4⟩=>⟨t,p0,p1,p2,⟨p3,qaf h.2 (G1 l a)⟩,p4⟩
def Le(a0 B g:Nat)(w:World)(L:Value)(l:List Int)(xs:List Nd)(d:Nat)(e:Ending)(w':World):Prop:=
 ∃(x:Ex) (v':Value) (a':Nat),e= .returned v'/\x.Good/\x.size+1<=2 ^ d/\x.depth<=d/\Ai B w' v' (xs++Ag xs.length x)/\DV a0 B g w' L l a'/\KB B g w w'
theorem Qj(a0 d:Nat):∀(B g:Nat) (w:World) (L:Value) (l:List Int) (a:Nat) (v:Value) (xs:List Nd) (closed:Bool) (D:Int),DV a0 B g w L l a->Ai B w v xs->B<=w.heap.size->1<=d->D=(d:Int)->xs.length+2 ^ d<=100000->d<=1000->
  Calls Tryz.prog 75 #[.pointer (some ⟨g,0,none⟩),v,.int .i64 D,.bool closed] w (Le a0 B g w L l xs d):=by
 induction d using Nat.strongRecOn with
 |_ d IH=>
 intro B g w L l a v xs closed D ht hv hB ec hD ak oQ;have nM:=J IH;have HT:=J ht;have HV:=J hv;have HP:=J ak;have qe:=J hD;have Yp:1<=D:=by omega
 have l9:=ht.lt;obtain⟨A0,c0,rfl⟩:=hv.shape;have kI:=J (QD (a0:=a0) B g w L l a ht);have ef:=J (fun W h=>Hw (a0:=a0) B g W L l a 5 h (by decide) (by decide));have uc:=J (fun W h=>Jf (a0:=a0) B g W L l a 1 16 h (by decide) (by decide) (by decide));have bA:=B5 (l:=l) (a:=a) (n:=5) (by decide);have wi:=B5 (l:=l) (a:=a) (n:=16-1+1) (by decide);have dM:=Jh ec;obtain⟨i0,hi,aR,hz1,aU⟩:=info_parts BI;have Zp:xs.length<=100000:=by omega
 clear IH ht hv ak hD;generalize Cm l a 5=x5 at *;generalize Cm l a (16-1+1)=x16 at *;generalize CP l a=a2 at *;go_enter Tryz.func75,Tryz.ntmps75;go_upto_region 1 with fail
 go_cut [23] from 12 to 23 (fun s23 wx=>∃q:Bool,s23= .bool q/\Dr w wx/\(q=false->1<D/\xs.length<=24))
 case first=>
  by_cases hD1:D<=1
  ·have hD2:decide (D<=1)=true:=decide_eq_true hD1;go_wp2_with fail;go_meet;exact⟨true,rfl,Dr.refl w,fun h=>by cases h⟩
  ·have hD2:decide (D<=1)=false:=decide_eq_false hD1;by_cases hal:a<l.length
   ·have fC:decide (a<l.length)=true:=decide_eq_true hal;rw[fC]at kI;clear fC hal;go_wp2_with fail;refine kI.o.mono ?_
    rintro e w1 ⟨rfl,hd⟩;have lP:=J hd;clear hd;go_wp2_with fail;go_meet;refine⟨_,rfl,lP.o,fun h=>⟨by omega,?_⟩⟩;have h2:=of_decide_eq_false h;omega
   ·have fC:decide (a<l.length)=false:=decide_eq_false hal;rw[fC]at kI;clear fC hal;go_wp2_with fail;refine kI.o.mono ?_
    rintro e w1 ⟨rfl,hd⟩;have lP:=J hd;clear hd;go_wp2_with fail;go_meet;exact⟨true,rfl,lP.o,fun h=>by cases h⟩
 case rest=>
  obtain⟨q,rfl,hd,hq⟩:=hcut;clear kI;have HD:=J hd;have fb:=J (HT.o.below (hd.belowN B));have rY:=J (HV.o.ext (hd.belowN w.heap.size));have nL:=J ((KB.refl B g w).below (hd.belowN B));have rP:B<=wc.heap.size:=by rw[hd.heap];exact hB
  clear hd hB;generalize wc=w1 at *;cases q
  ·obtain⟨hDgt,sD⟩:=hq rfl;obtain⟨m,rfl⟩:∃m,d=m+1:=⟨d-1,by omega⟩;have jP:1<=m:=by have:=qe.o;omega
   have sR:2 ^ (m+1)=2*2 ^ m:=by rw[qaZ];omega
   have om:=Jh jP;have ak:=HP.o;have aB:IntKind.i64.wrap (D-1)=D-1:=by have:=qe.o;exact IntWalk.i64_in _ (by omega)
   obtain⟨K,hK⟩:∃K:Nat,(K:Int)=1+x16:=⟨(1+x16).toNat,by omega⟩;rw[<-hK]at uc;have Yo:1<=K:=by omega
   have hK16:K<=16:=by omega
   have az:=J (fun W=>Bf W (K:Int));clear hq hK wi ef bA;have key:(Al (K:Int)=0/\K<=4)\/(Al (K:Int)=1/\(K=5\/(10<=K/\K<=16)))\/(Al (K:Int)=2/\(6<=K/\K<=9)):=by
    unfold Al
    repeat' split
    all_goals omega
   rcases key with ⟨ay,_⟩|⟨ay,zA⟩|⟨ay,zA⟩
   ·rw[ay]at az;clear ay sD;have HI:=J (fun W h1 h2 h3=>nM.o 1 (by omega) B g W L l a2 (.slice A0 xs.length c0) xs closed 1 h1 h2 h3 (by decide) rfl (by omega) (by decide));go_wp2_with fail;refine(uc.o _ fb.o).mono ?_
    rintro e w2 ⟨rfl,fI,hk2⟩;have fU:=J fI;have fL:=J (rY.o.kbx l9 hk2);have ie:=J (nL.o.trans (hk2 B));have ia:B<=w2.heap.size:=qaf rP (hk2 B).size;clear fI hk2;go_wp2_with fail;refine(az.o _).mono ?_
    rintro e w3 ⟨rfl,rfl⟩;go_wp2_with fail;refine(HI.o _ fU.o fL.o ia).mono ?_
    rintro e w4 aj;obtain⟨x,v',a',rfl,hg,hs,jw,ac,ny,hk⟩:=aj;have HE:=J (And.intro hg (And.intro hs (And.intro jw (And.intro ac (And.intro ny hk)))));clear hg hs jw ac ny hk;go_wp2_with fail;go_ret;obtain⟨hg,hs,jw,ac,ny,hk⟩:=HE.o;exact⟨x,v',a',rfl,hg,qaf hs dM,by omega,ac,ny,ie.o.trans hk⟩
   ·rw[ay]at az;clear ay sD;by_cases hK10:K=10
    ·subst hK10;rw[show ((10:Nat):Int)=10 from rfl]at az uc;have k9:=J (fun W h=>Jf (a0:=a0) B g W L l a2 (-3) 4 h (by decide) (by decide) (by decide));have cD:=B5 (l:=l) (a:=a2) (n:=4- -3+1) (by decide);have wJ: -3≤-3+Cm l a2 (4- -3+1)∧-3+Cm l a2 (4- -3+1)<=4:=by omega
     generalize-3+Cm l a2 (4- -3+1)=nn at *;generalize CP l a2=a3 at *;clear cD;go_wp2_with fail;refine(uc.o _ fb.o).mono ?_
     rintro e w2 ⟨rfl,fI,hk2⟩;have fU:=J fI;have fL:=J (rY.o.kbx l9 hk2);have ie:=J (nL.o.trans (hk2 B));have ia:B<=w2.heap.size:=qaf rP (hk2 B).size;clear fI hk2;go_wp2_with fail;refine(az.o _).mono ?_
     rintro e w3 ⟨rfl,rfl⟩;go_wp2_with fail;refine(k9.o _ fU.o).mono ?_
     rintro e w6 ⟨rfl,vV,dp⟩;have r6:=J vV;have HV6:=J (fL.o.kbx l9 dp);have cN:=J (ie.o.trans (dp B));have vf:B<=w6.heap.size:=qaf ia (dp B).size;clear vV dp;go_wp2_with fail;refine(nM.o m (by omega) B g _ L l a3 (.slice A0 xs.length c0) (xs) closed (D-1) r6.o HV6.o vf jP (by have:=qe.o;omega) (by omega) (by omega)).mono ?_
     rintro e w7 aj;obtain⟨x,v7,a7,rfl,i2,Xy,kt,aK,j8,iE⟩:=aj;obtain⟨A7,c7,n7,rfl,gX⟩:=aK.shape3;have nD:n7=xs.length+x.size:=by rw[gX,qab,Ak]
     have zD:Hid (w7.ownsRow B 95 5 (.slice A7 n7 c7) n7 (AN (xs++Ag xs.length x))):=J (by
      have h:=aK;unfold Ai at h;rw[<-gX]at h;exact h)
     have nk:=J nD;have xx:n7<=100000:=by omega
     have xw:1<=n7:=by have:=x.size_pos;omega
     have jH:=J aK;have de:=J gX;have rZ:=J j8;have qc:=J (And.intro i2 kt);have jK:=J (cN.o.trans iE);have ve:B<=w7.heap.size:=qaf vf iE.size;clear i2 kt aK j8 iE gX nD;have dk:IntKind.i64.wrap ((n7:Int)-1)=(n7:Int)-1:=IntWalk.i64_in _ (by omega);have dt:Hid ((w7.alloc (.cells #[.int .i64 10,.int .i64 ((n7:Int)-1),.int .i64 0,.int .i64 nn,.string ⟨#[]⟩] 95)).ownsRow B 95 5 _ n7 (AN (xs++Ag xs.length x))):=J (Ac zD.o (fun k _ hk=>Below.heap_alloc _ _ k hk));have a9:=J (AS w7 95 [.int .i64 10,.int .i64 ((n7:Int)-1),.int .i64 0,.int .i64 nn,.string ⟨#[]⟩]);have aI:Hid (n7+1<=maxLen):=J (by unfold maxLen;omega);have aH:Hid ((n7+1)*48<=140737488355328):=J (by omega);have aO:Hid (B<=(w7.alloc (.cells #[.int .i64 10,.int .i64 ((n7:Int)-1),.int .i64 0,.int .i64 nn,.string ⟨#[]⟩] 95)).heap.size):=J (by simp;omega);go_wp2_with (at_builtin;go_must (refine wpList_append_own _ rfl _ _ 32 rfl B 95 i0 _ 5 48 Tryz.underlying32 hi aR hz1 aU rfl (by decide) _ n7 (AN (xs++Ag xs.length x)) rfl dt.o ⟨w7.heap.size,0,none⟩ 1 1 [.int .i64 10,.int .i64 ((n7:Int)-1),.int .i64 0,.int .i64 nn,.string ⟨#[]⟩] rfl rfl a9.o (by simp[Value.oneCell']) aI.o aH.o aO.o ?_;intro v' w' ac hgr _;have dC:=J (DI (nd:=⟨10,(n7:Int)-1,0,nn,[]⟩) de.o _ jH.o ve ac hgr);obtain⟨A',c',rfl⟩:=Ao ac;clear ac hgr));go_wp2_with fail;go_ret;have nD:=nk.o;have vW:=x.size_pos;refine⟨.un 10 nn x,_,_,rfl,⟨zA,fun h=>absurd rfl h,by omega,by omega,qc.o.1⟩,by rw[Ex.size];omega,by rw[Ex.depth];have:=qc.o.2;omega,?_,rZ.o.below dC.o.2,jK.o.below dC.o.2⟩;rw[Ag,<-qan,show ((xs.length+x.size-1:Nat):Int)=(n7:Int)-1 by omega];exact dC.o.1
    ·have hKe:((K:Int) == 10)=false:=by rw[beq_eq_false_iff_ne];omega
     go_wp2_with fail;refine(uc.o _ fb.o).mono ?_
     rintro e w2 ⟨rfl,fI,hk2⟩;have fU:=J fI;have fL:=J (rY.o.kbx l9 hk2);have ie:=J (nL.o.trans (hk2 B));have ia:B<=w2.heap.size:=qaf rP (hk2 B).size;clear fI hk2;go_wp2_with fail;refine(az.o _).mono ?_
     rintro e w3 ⟨rfl,rfl⟩;have cN:=J ie.o;have vf:=ia;go_wp2_with fail;refine(nM.o m (by omega) B g _ L l a2 (.slice A0 xs.length c0) (xs) closed (D-1) fU.o fL.o ia jP (by have:=qe.o;omega) (by omega) (by omega)).mono ?_
     rintro e w7 aj;obtain⟨x,v7,a7,rfl,i2,Xy,kt,aK,j8,iE⟩:=aj;obtain⟨A7,c7,n7,rfl,gX⟩:=aK.shape3;have nD:n7=xs.length+x.size:=by rw[gX,qab,Ak]
     have zD:Hid (w7.ownsRow B 95 5 (.slice A7 n7 c7) n7 (AN (xs++Ag xs.length x))):=J (by
      have h:=aK;unfold Ai at h;rw[<-gX]at h;exact h)
     have nk:=J nD;have xx:n7<=100000:=by omega
     have xw:1<=n7:=by have:=x.size_pos;omega
     have jH:=J aK;have de:=J gX;have rZ:=J j8;have qc:=J (And.intro i2 kt);have jK:=J (cN.o.trans iE);have ve:B<=w7.heap.size:=qaf vf iE.size;clear i2 kt aK j8 iE gX nD;have dk:IntKind.i64.wrap ((n7:Int)-1)=(n7:Int)-1:=IntWalk.i64_in _ (by omega);have dt:Hid ((w7.alloc (.cells #[.int .i64 (K:Int),.int .i64 ((n7:Int)-1),.int .i64 0,.int .i64 0,.string ⟨#[]⟩] 95)).ownsRow B 95 5 _ n7 (AN (xs++Ag xs.length x))):=J (Ac zD.o (fun k _ hk=>Below.heap_alloc _ _ k hk));have a9:=J (AS w7 95 [.int .i64 (K:Int),.int .i64 ((n7:Int)-1),.int .i64 0,.int .i64 0,.string ⟨#[]⟩]);have aI:Hid (n7+1<=maxLen):=J (by unfold maxLen;omega);have aH:Hid ((n7+1)*48<=140737488355328):=J (by omega);have aO:Hid (B<=(w7.alloc (.cells #[.int .i64 (K:Int),.int .i64 ((n7:Int)-1),.int .i64 0,.int .i64 0,.string ⟨#[]⟩] 95)).heap.size):=J (by simp;omega);go_wp2_with (at_builtin;go_must (refine wpList_append_own _ rfl _ _ 32 rfl B 95 i0 _ 5 48 Tryz.underlying32 hi aR hz1 aU rfl (by decide) _ n7 (AN (xs++Ag xs.length x)) rfl dt.o ⟨w7.heap.size,0,none⟩ 1 1 [.int .i64 (K:Int),.int .i64 ((n7:Int)-1),.int .i64 0,.int .i64 0,.string ⟨#[]⟩] rfl rfl a9.o (by simp[Value.oneCell']) aI.o aH.o aO.o ?_;intro v' w' ac hgr _;have dC:=J (DI (nd:=⟨(K:Int),(n7:Int)-1,0,0,[]⟩) de.o _ jH.o ve ac hgr);obtain⟨A',c',rfl⟩:=Ao ac;clear ac hgr));go_wp2_with fail;go_ret;have nD:=nk.o;have vW:=x.size_pos;refine⟨.un K 0 x,_,_,rfl,⟨zA,fun _=>rfl,by omega,by omega,qc.o.1⟩,by rw[Ex.size];omega,by rw[Ex.depth];have:=qc.o.2;omega,?_,rZ.o.below dC.o.2,jK.o.below dC.o.2⟩;rw[Ag,<-qan,show ((xs.length+x.size-1:Nat):Int)=(n7:Int)-1 by omega];exact dC.o.1
   ·rw[ay]at az;clear ay sD;go_wp2_with fail;refine(uc.o _ fb.o).mono ?_
    rintro e w2 ⟨rfl,fI,hk2⟩;have fU:=J fI;have fL:=J (rY.o.kbx l9 hk2);have ie:=J (nL.o.trans (hk2 B));have ia:B<=w2.heap.size:=qaf rP (hk2 B).size;clear fI hk2;go_wp2_with fail;refine(az.o _).mono ?_
    rintro e w3 ⟨rfl,rfl⟩;have cN:=J ie.o;have vf:=ia;go_wp2_with fail;refine(nM.o m (by omega) B g _ L l a2 (.slice A0 xs.length c0) (xs) closed (D-1) fU.o fL.o ia jP (by have:=qe.o;omega) (by omega) (by omega)).mono ?_
    rintro e w7 aj;obtain⟨x,v7,a7,rfl,i2,Xy,kt,aK,j8,iE⟩:=aj;obtain⟨A7,c7,n7,rfl,gX⟩:=aK.shape3;have nD:n7=xs.length+x.size:=by rw[gX,qab,Ak]
    have zD:Hid (w7.ownsRow B 95 5 (.slice A7 n7 c7) n7 (AN (xs++Ag xs.length x))):=J (by
     have h:=aK;unfold Ai at h;rw[<-gX]at h;exact h)
    have nk:=J nD;have xx:n7<=100000:=by omega
    have xw:1<=n7:=by have:=x.size_pos;omega
    have jH:=J aK;have de:=J gX;have rZ:=J j8;have qc:=J (And.intro i2 kt);have jK:=J (cN.o.trans iE);have ve:B<=w7.heap.size:=qaf vf iE.size;clear i2 kt aK j8 iE gX nD;have dk:IntKind.i64.wrap ((n7:Int)-1)=(n7:Int)-1:=IntWalk.i64_in _ (by omega);go_wp2_with fail;refine(nM.o m (by omega) B g _ L l a7 (.slice A7 n7 c7) (xs++Ag xs.length x) closed (D-1) rZ.o jH.o ve jP (by have:=qe.o;omega) (by rw[<-de.o];have:=nk.o;omega) (by omega)).mono ?_
    rintro e w8 aj;obtain⟨y,v8,a8,rfl,jh,kS,xo,lT,vS,ch⟩:=aj;have V8:=nk.o;obtain⟨A8,c8,n8,rfl,wJ⟩:=lT.shape3;have V7:n8=n7+y.size:=by rw[wJ,qab,Ak,<-de.o]
    have HW8:Hid (w8.ownsRow B 95 5 (.slice A8 n8 c8) n8 (AN ((xs++Ag xs.length x)++Ag (xs++Ag xs.length x).length y))):=J (by
     have h:=lT;unfold Ai at h;rw[<-wJ]at h;exact h)
    have ml:=J V7;have hb8a:n8<=100000:=by omega
    have hb8b:1<=n8:=by have:=y.size_pos;omega
    have uj:=J lT;have mi:=J wJ;have HT8:=J vS;have zS:=J (And.intro jh xo);have gy:=J (jK.o.trans ch);have hB8:B<=w8.heap.size:=qaf ve ch.size;clear jh xo lT vS ch wJ V7 V8;have dx:IntKind.i64.wrap ((n8:Int)-1)=(n8:Int)-1:=IntWalk.i64_in _ (by omega);have dt:Hid ((w8.alloc (.cells #[.int .i64 (K:Int),.int .i64 ((n7:Int)-1),.int .i64 ((n8:Int)-1),.int .i64 0,.string ⟨#[]⟩] 95)).ownsRow B 95 5 _ n8 (AN ((xs++Ag xs.length x)++Ag (xs++Ag xs.length x).length y))):=J (Ac HW8.o (fun k _ hk=>Below.heap_alloc _ _ k hk));have a9:=J (AS w8 95 [.int .i64 (K:Int),.int .i64 ((n7:Int)-1),.int .i64 ((n8:Int)-1),.int .i64 0,.string ⟨#[]⟩]);have aI:Hid (n8+1<=maxLen):=J (by unfold maxLen;omega);have aH:Hid ((n8+1)*48<=140737488355328):=J (by omega);have aO:Hid (B<=(w8.alloc (.cells #[.int .i64 (K:Int),.int .i64 ((n7:Int)-1),.int .i64 ((n8:Int)-1),.int .i64 0,.string ⟨#[]⟩] 95)).heap.size):=J (by simp;omega);go_wp2_with (at_builtin;go_must (refine wpList_append_own _ rfl _ _ 32 rfl B 95 i0 _ 5 48 Tryz.underlying32 hi aR hz1 aU rfl (by decide) _ n8 (AN ((xs++Ag xs.length x)++Ag (xs++Ag xs.length x).length y)) rfl dt.o ⟨w8.heap.size,0,none⟩ 1 1 [.int .i64 (K:Int),.int .i64 ((n7:Int)-1),.int .i64 ((n8:Int)-1),.int .i64 0,.string ⟨#[]⟩] rfl rfl a9.o (by simp[Value.oneCell']) aI.o aH.o aO.o ?_;intro v' w' ac hgr _;have dC:=J (DI (nd:=⟨(K:Int),(n7:Int)-1,(n8:Int)-1,0,[]⟩) mi.o _ uj.o hB8 ac hgr);obtain⟨A',c',rfl⟩:=Ao ac;clear ac hgr));go_wp2_with fail;go_ret;have nD:=nk.o;have V7:=ml.o;have vW:=x.size_pos;have ZD:=y.size_pos;refine⟨.bin K x y,_,_,rfl,⟨zA,qc.o.1,zS.o.1⟩,by rw[Ex.size];omega,by rw[Ex.depth];have:=qc.o.2;have:=zS.o.2;omega,?_,HT8.o.below dC.o.2,gy.o.below dC.o.2⟩;rw[Ag,show ((xs.length+x.size-1:Nat):Int)=(n7:Int)-1 by omega,show ((xs.length+x.size+y.size-1:Nat):Int)=(n8:Int)-1 by omega];have h9:=dC.o.1;rw[show (xs++Ag xs.length x).length=xs.length+x.size by rw[<-de.o];exact nD]at h9;simp only[qan]at h9 ⊢;exact h9
  ·clear hq nM uc wi;obtain rfl|Yt|h34:x5=0\/(x5=1\/x5=2)\/(x5=3\/x5=4):=by omega
   ·go_wp2_with fail;refine(ef.o _ fb.o).mono ?_
    rintro e w2 ⟨rfl,fI,hk2⟩;have fU:=J fI;have fL:=J (rY.o.kbx l9 hk2);have ie:=J (nL.o.trans (hk2 B));have ia:B<=w2.heap.size:=qaf rP (hk2 B).size;clear fI hk2;have pv:=J (fun W h=>Hw (a0:=a0) B g W L l a2 2 h (by decide) (by decide));have hr2:=B5 (l:=l) (a:=a2) (n:=2) (by decide);generalize Cm l a2 2=y at *;generalize CP l a2=a3 at *;obtain rfl|rfl:y=0\/y=1:=by omega
    ·go_wp2_with fail;refine(pv.o _ fU.o).mono ?_
     rintro e w3 ⟨rfl,jN,dq⟩;have mh:=J jN;have mg:=J (fL.o.kbx l9 dq);have ck:=J (ie.o.trans (dq B));have qO:B<=w3.heap.size:=qaf ia (dq B).size;clear jN dq;have dt:Hid ((w3.alloc (.cells #[.int .i64 3,.int .i64 0,.int .i64 0,.int .i64 0,.string ⟨#[]⟩] 95)).ownsRow B 95 5 _ xs.length (AN (xs))):=J (Ac mg.o (fun k _ hk=>Below.heap_alloc _ _ k hk));have a9:=J (AS w3 95 [.int .i64 3,.int .i64 0,.int .i64 0,.int .i64 0,.string ⟨#[]⟩]);have aI:Hid (xs.length+1<=maxLen):=J (by unfold maxLen;omega);have aH:Hid ((xs.length+1)*48<=140737488355328):=J (by omega);have aO:Hid (B<=(w3.alloc (.cells #[.int .i64 3,.int .i64 0,.int .i64 0,.int .i64 0,.string ⟨#[]⟩] 95)).heap.size):=J (by simp;omega);go_wp2_with (at_builtin;go_must (refine wpList_append_own _ rfl _ _ 32 rfl B 95 i0 _ 5 48 Tryz.underlying32 hi aR hz1 aU rfl (by decide) _ xs.length (AN (xs)) rfl dt.o ⟨w3.heap.size,0,none⟩ 1 1 [.int .i64 3,.int .i64 0,.int .i64 0,.int .i64 0,.string ⟨#[]⟩] rfl rfl a9.o (by simp[Value.oneCell']) aI.o aH.o aO.o ?_;intro v' w' ac hgr _;have dC:=J (DI (nd:=⟨3,0,0,0,[]⟩) rfl _ mg.o qO ac hgr);obtain⟨A',c',rfl⟩:=Ao ac;clear ac hgr));go_wp2_with fail;go_ret;exact⟨.leaf 3 [],_,_,rfl,.inr (.inr ⟨by omega,rfl⟩),by rw[Ex.size];omega,ec,dC.o.1,mh.o.below dC.o.2,ck.o.below dC.o.2⟩
    ·go_wp2_with fail;refine(pv.o _ fU.o).mono ?_
     rintro e w3 ⟨rfl,jN,dq⟩;have mh:=J jN;have mg:=J (fL.o.kbx l9 dq);have ck:=J (ie.o.trans (dq B));have qO:B<=w3.heap.size:=qaf ia (dq B).size;clear jN dq;have dt:Hid ((w3.alloc (.cells #[.int .i64 4,.int .i64 0,.int .i64 0,.int .i64 0,.string ⟨#[]⟩] 95)).ownsRow B 95 5 _ xs.length (AN (xs))):=J (Ac mg.o (fun k _ hk=>Below.heap_alloc _ _ k hk));have a9:=J (AS w3 95 [.int .i64 4,.int .i64 0,.int .i64 0,.int .i64 0,.string ⟨#[]⟩]);have aI:Hid (xs.length+1<=maxLen):=J (by unfold maxLen;omega);have aH:Hid ((xs.length+1)*48<=140737488355328):=J (by omega);have aO:Hid (B<=(w3.alloc (.cells #[.int .i64 4,.int .i64 0,.int .i64 0,.int .i64 0,.string ⟨#[]⟩] 95)).heap.size):=J (by simp;omega);go_wp2_with (at_builtin;go_must (refine wpList_append_own _ rfl _ _ 32 rfl B 95 i0 _ 5 48 Tryz.underlying32 hi aR hz1 aU rfl (by decide) _ xs.length (AN (xs)) rfl dt.o ⟨w3.heap.size,0,none⟩ 1 1 [.int .i64 4,.int .i64 0,.int .i64 0,.int .i64 0,.string ⟨#[]⟩] rfl rfl a9.o (by simp[Value.oneCell']) aI.o aH.o aO.o ?_;intro v' w' ac hgr _;have dC:=J (DI (nd:=⟨4,0,0,0,[]⟩) rfl _ mg.o qO ac hgr);obtain⟨A',c',rfl⟩:=Ao ac;clear ac hgr));go_wp2_with fail;go_ret;exact⟨.leaf 4 [],_,_,rfl,.inr (.inr ⟨by omega,rfl⟩),by rw[Ex.size];omega,ec,dC.o.1,mh.o.below dC.o.2,ck.o.below dC.o.2⟩
   ·cases closed
    ·obtain rfl|rfl:=Yt
     all_goals
      go_wp2_with fail;refine(ef.o _ fb.o).mono ?_
      rintro e w2 ⟨rfl,fI,hk2⟩;have fU:=J fI;have fL:=J (rY.o.kbx l9 hk2);have ie:=J (nL.o.trans (hk2 B));have ia:B<=w2.heap.size:=qaf rP (hk2 B).size;clear fI hk2;have pv:=J (fun W h=>Hw (a0:=a0) B g W L l a2 5 h (by decide) (by decide));have hr2:=B5 (l:=l) (a:=a2) (n:=5) (by decide);obtain⟨t,sB,mB,hgt,gT⟩:=Qw hr2.1 hr2.2;obtain⟨hy0,rl⟩:=hr2;have gz:=J hgt;have Wm:=J mB;generalize Cm l a2 5=y at *;generalize CP l a2=a3 at *;clear hgt mB;go_wp2_with fail;refine(Hx _).mono ?_
      rintro e w4 ⟨rfl,p8,aJ⟩;have eK:=J p8;have aD:=J aJ;clear p8 aJ;go_wp2_with fail;refine(Hx _).mono ?_
      rintro e w5 ⟨rfl,_,hx5⟩;have cm:=J (eK.o.ext hx5);have ba:=J (aD.o.trans hx5);clear hx5;go_wp2_with fail;refine(pv.o _ (fU.o.below (Below.mono ba.o ia))).mono ?_
      rintro e w3 ⟨rfl,jN,dq⟩;have fR:=fU.o.blk.lt;have zp:=((dq (w2.heap.size+1)).blk cm.o (by omega) (by omega)).cell y.toNat;rw[qbL,qaD,qaa sB]at zp;rw[Wm.o]at zp;have hld2:w3.cell? ⟨w2.heap.size,y.toNat,none⟩=some (str t):=zp;have mh:=J jN;have mg:=J ((fL.o.ext ba.o).kbx l9 dq);have ck:=J ((ie.o.ext ba.o ia).trans (dq B));have qO:B<=w3.heap.size:=qaf ia (qaf ba.o.size (dq B).size);clear jN dq zp fR;have dt:Hid ((w3.alloc (.cells #[.int .i64 2,.int .i64 0,.int .i64 0,.int .i64 0,str t] 95)).ownsRow B 95 5 _ xs.length (AN (xs))):=J (Ac mg.o (fun k _ hk=>Below.heap_alloc _ _ k hk));have a9:=J (AS w3 95 [.int .i64 2,.int .i64 0,.int .i64 0,.int .i64 0,str t]);have aI:Hid (xs.length+1<=maxLen):=J (by unfold maxLen;omega);have aH:Hid ((xs.length+1)*48<=140737488355328):=J (by omega);have aO:Hid (B<=(w3.alloc (.cells #[.int .i64 2,.int .i64 0,.int .i64 0,.int .i64 0,str t] 95)).heap.size):=J (by simp;omega);go_wp2_with (at_builtin;go_must (refine wpList_append_own _ rfl _ _ 32 rfl B 95 i0 _ 5 48 Tryz.underlying32 hi aR hz1 aU rfl (by decide) _ xs.length (AN (xs)) rfl dt.o ⟨w3.heap.size,0,none⟩ 1 1 [.int .i64 2,.int .i64 0,.int .i64 0,.int .i64 0,str t] rfl rfl a9.o (by simp[Value.oneCell',str]) aI.o aH.o aO.o ?_;intro v' w' ac hgr _;have dC:=J (DI (nd:=⟨2,0,0,0,t⟩) rfl _ mg.o qO ac hgr);obtain⟨A',c',rfl⟩:=Ao ac;clear ac hgr));go_wp2_with fail;go_ret;exact⟨.leaf 2 t,_,_,rfl,.inr (.inl ⟨rfl,gz.o⟩),by rw[Ex.size];omega,ec,dC.o.1,mh.o.below dC.o.2,ck.o.below dC.o.2⟩
    ·obtain rfl|rfl:=Yt
     all_goals
      go_wp2_with fail;refine(ef.o _ fb.o).mono ?_
      rintro e w2 ⟨rfl,fI,hk2⟩;have fU:=J fI;have fL:=J (rY.o.kbx l9 hk2);have ie:=J (nL.o.trans (hk2 B));have ia:B<=w2.heap.size:=qaf rP (hk2 B).size;clear fI hk2;go_wp2_with fail;refine(It (a0:=a0) B g _ L l a2 fU.o ia).mono ?_
      rintro e w3 ⟨t,rfl,rL,gT,jN,dq⟩;have gz:=J (And.intro rL gT);clear rL gT;have mh:=J jN;have mg:=J (fL.o.kbs l9 dq);have ck:=J (ie.o.trans (dq.mono ia));have qO:B<=w3.heap.size:=qaf ia dq.size;clear jN dq;have dt:Hid ((w3.alloc (.cells #[.int .i64 1,.int .i64 0,.int .i64 0,.int .i64 0,str t] 95)).ownsRow B 95 5 _ xs.length (AN (xs))):=J (Ac mg.o (fun k _ hk=>Below.heap_alloc _ _ k hk));have a9:=J (AS w3 95 [.int .i64 1,.int .i64 0,.int .i64 0,.int .i64 0,str t]);have aI:Hid (xs.length+1<=maxLen):=J (by unfold maxLen;omega);have aH:Hid ((xs.length+1)*48<=140737488355328):=J (by omega);have aO:Hid (B<=(w3.alloc (.cells #[.int .i64 1,.int .i64 0,.int .i64 0,.int .i64 0,str t] 95)).heap.size):=J (by simp;omega);go_wp2_with (at_builtin;go_must (refine wpList_append_own _ rfl _ _ 32 rfl B 95 i0 _ 5 48 Tryz.underlying32 hi aR hz1 aU rfl (by decide) _ xs.length (AN (xs)) rfl dt.o ⟨w3.heap.size,0,none⟩ 1 1 [.int .i64 1,.int .i64 0,.int .i64 0,.int .i64 0,str t] rfl rfl a9.o (by simp[Value.oneCell',str]) aI.o aH.o aO.o ?_;intro v' w' ac hgr _;have dC:=J (DI (nd:=⟨1,0,0,0,t⟩) rfl _ mg.o qO ac hgr);obtain⟨A',c',rfl⟩:=Ao ac;clear ac hgr));go_wp2_with fail;go_ret;exact⟨.leaf 1 t,_,_,rfl,.inl ⟨rfl,gz.o.1,qaf gz.o.2 (by decide)⟩,by rw[Ex.size];omega,ec,dC.o.1,mh.o.below dC.o.2,ck.o.below dC.o.2⟩
   ·obtain rfl|rfl:=h34
    all_goals
     go_wp2_with fail;refine(ef.o _ fb.o).mono ?_
     rintro e w2 ⟨rfl,fI,hk2⟩;have fU:=J fI;have fL:=J (rY.o.kbx l9 hk2);have ie:=J (nL.o.trans (hk2 B));have ia:B<=w2.heap.size:=qaf rP (hk2 B).size;clear fI hk2;go_wp2_with fail;refine(It (a0:=a0) B g _ L l a2 fU.o ia).mono ?_
     rintro e w3 ⟨t,rfl,rL,gT,jN,dq⟩;have gz:=J (And.intro rL gT);clear rL gT;have mh:=J jN;have mg:=J (fL.o.kbs l9 dq);have ck:=J (ie.o.trans (dq.mono ia));have qO:B<=w3.heap.size:=qaf ia dq.size;clear jN dq;have dt:Hid ((w3.alloc (.cells #[.int .i64 1,.int .i64 0,.int .i64 0,.int .i64 0,str t] 95)).ownsRow B 95 5 _ xs.length (AN (xs))):=J (Ac mg.o (fun k _ hk=>Below.heap_alloc _ _ k hk));have a9:=J (AS w3 95 [.int .i64 1,.int .i64 0,.int .i64 0,.int .i64 0,str t]);have aI:Hid (xs.length+1<=maxLen):=J (by unfold maxLen;omega);have aH:Hid ((xs.length+1)*48<=140737488355328):=J (by omega);have aO:Hid (B<=(w3.alloc (.cells #[.int .i64 1,.int .i64 0,.int .i64 0,.int .i64 0,str t] 95)).heap.size):=J (by simp;omega);go_wp2_with (at_builtin;go_must (refine wpList_append_own _ rfl _ _ 32 rfl B 95 i0 _ 5 48 Tryz.underlying32 hi aR hz1 aU rfl (by decide) _ xs.length (AN (xs)) rfl dt.o ⟨w3.heap.size,0,none⟩ 1 1 [.int .i64 1,.int .i64 0,.int .i64 0,.int .i64 0,str t] rfl rfl a9.o (by simp[Value.oneCell',str]) aI.o aH.o aO.o ?_;intro v' w' ac hgr _;have dC:=J (DI (nd:=⟨1,0,0,0,t⟩) rfl _ mg.o qO ac hgr);obtain⟨A',c',rfl⟩:=Ao ac;clear ac hgr));go_wp2_with fail;go_ret;exact⟨.leaf 1 t,_,_,rfl,.inl ⟨rfl,gz.o.1,qaf gz.o.2 (by decide)⟩,by rw[Ex.size];omega,ec,dC.o.1,mh.o.below dC.o.2,ck.o.below dC.o.2⟩
theorem Q1(d g:Nat)(w:World)(L:Value)(l:List Int)(a:Nat)(closed:Bool)(h:BR w.heap.size g w L l a)(hd:1<=d)(bE:d<=16):Calls Tryz.prog 22 #[.pointer (some ⟨g,0,none⟩),.int .i64 (d:Int),.bool closed] w (Le a w.heap.size g w L l [] d):=by
 have hp:2 ^ d<=2 ^ 16:=qbw (by omega) bE;have HP:=J (Qj a d w.heap.size g w L l a (.slice none 0 0) [] closed (d:Int) ⟨h,qad a⟩ (Ai.nil _ w) (qad _) hd rfl (by simp;omega) (by omega));clear h hp;go_enter Tryz.func22,Tryz.ntmps22;go_wp2_with fail;refine HP.o.mono ?_
 rintro e w2 ⟨x,v',a',rfl,h1,h2,h3,h4,h5,h6⟩;have HE:=J (And.intro h1 (And.intro h2 (And.intro h3 (And.intro h4 (And.intro h5 h6)))));clear h1 h2 h3 h4 h5 h6;go_wp2_with fail;go_ret;obtain⟨h1,h2,h3,h4,h5,h6⟩:=HE.o;exact⟨x,v',a',rfl,h1,h2,h3,h4,h5,h6⟩
def S3(B g:Nat)(ns:List Nd)(rv:Value)(e:Ex)(w:World)(r:Ending)(w':World):Prop:=
 ∃rv',r= .returned (.tuple #[.int .i64 ((AC ns e).1:Int),.int .i64 0])/\KG g g rv rv' w w'/\GrR B g w' (AC ns e).2 rv'
theorem RU(B g:Nat)(w:World)(ns:List Nd)(rv v:Value)(e:Ex)(h:GrR B g w ns rv)(hv:CS g g rv w v (Ag 0 e))(be:e.Good)(hsz:e.size<=200)(jw:e.depth<=40)(br:ns.length+e.size<=4096):
  Calls Tryz.prog 25 #[.pointer (some ⟨g,0,none⟩),v] w (S3 B g ns rv e w):=by
 have lb:=J (RQ B g w ns rv v e h hv be hsz jw br);obtain⟨A1,c1,rfl,_⟩:=hv;clear h be jw br;go_enter Tryz.func25,Tryz.ntmps25;go_wp2_with fail;refine lb.o.mono ?_
 rintro r w1 ⟨rv',gi,ci,more,rfl,hm,hc,hk,hg⟩;rw[<-hm]at hsz ⊢;have HK:=J hk;have HG:=J hg;clear hm hk hg;obtain⟨kz,iD⟩:∃kz,kz=more.length:=⟨_,rfl⟩;rw[<-iD]at hsz hc ⊢;clear iD;have hz1:IntKind.i64.wrap (((kz+1:Nat):Int)-1)=(kz:Int):=by rw[IntWalk.i64_in _ (by omega)];omega
 have aU:IntKind.i64.wrap ((kz:Int)+1-1)=(kz:Int):=by rw[IntWalk.i64_in _ (by omega)];omega
 have Zi:IntKind.i64.wrap (kz:Int)=(kz:Int):=IntWalk.i64_in _ (by omega);have Zh:(kz:Int)<(kz:Int)+1:=by omega
 have Zg:(0:Int)<=(kz:Int):=by omega
 generalize hpid:(AC ns e).1=pid at *;have uf:=J hpid;clear hpid;go_wp2_with fail;go_ret2;exact⟨rv',by rw[uf.o];rfl,HK.o,HG.o⟩
def Rv(w:World)(g:Nat):Nat:=match w.cell? ⟨g,1,none⟩ with
 |some (.int _ n)=>n.toNat
 |_=>0
theorem BR.place{B g:Nat}{w:World}{L:Value}{l:List Int}{a:Nat}(h:BR B g w L l a):Rv w g=a:=by
 unfold Rv;rw[h.blk.cell 1];simp
theorem GrR.kb{B g tg:Nat}{w w':World}{ns:List Nd}{rv:Value}(h:GrR B g w ns rv)(ht:tg<B)(hk:KB w.heap.size tg w w'):GrR B g w' ns rv:=
 ⟨(hk.block g h.lt (by have:=h.lo;omega)).trans h.blk,h.row.kbs ht hk,h.lo,h.ok,h.few⟩
theorem Om(w:World)(v:Value)(l:List Int)(h:D1 w v l)(hn:l.length<=1000000):
  Calls Tryz.prog 24 #[v] w fun e w'=>∃g ns rv,e= .returned (.pointer (some ⟨g,0,none⟩))/\GrR (w.heap.size+1) g w' ns rv/\ns.length<=75/\Ext w w':=by
 have fE:=J (Pg w v l h hn);obtain⟨A0,c0,rfl,xb,xa,wZ⟩:=h.open;clear h xb xa wZ;go_enter Tryz.func24,Tryz.ntmps24;go_wp2_with fail;refine fE.o.mono ?_
 rintro e w1 ⟨rfl,ht,hx,hs⟩;have ph:=J ht;have ah:=J hx;have aA:=J (Blk.new w1 71 #[.slice none 0 0]);have lh:=hs;obtain⟨tg,vU⟩:∃tg,tg=w.heap.size:=⟨_,rfl⟩;obtain⟨g,hg⟩:∃g,g=w1.heap.size:=⟨_,rfl⟩;rw[<-hg]at aA;rw[<-vU]at ph ⊢;rw[<-hg,<-vU]at lh;have YX:=J hg;have dB:=J vU;have nG:=J lh;clear fE ht hx hs;go_upto_region 3 with fail;rw[<-hg,<-vU];have am:=J (ah.o.alloc (.cells #[.slice none 0 0] 71));have fU:=J (ph.o.below (Below.alloc (Below.refl (tg+1) w1) (by omega) (.cells #[.slice none 0 0] 71)));obtain⟨w2,aY⟩:∃w2,w2=w1.alloc (.cells #[.slice none 0 0] 71):=⟨_,rfl⟩;rw[<-aY]at am aA fU;rw[<-aY];clear aY;have du:Hid (GrR (tg+1) g w2 [] (.slice none 0 0)):=J ⟨aA.o,Ai.nil _ _,by omega,Ax.nil,by decide⟩;clear hg vU lh ph ah;go_loopw [9] (fun _ wr=>∃a ns rv,BR (tg+1) tg wr (.slice A0 l.length c0) l a/\GrR (tg+1) g wr ns rv/\ns.length<=75/\Ext w wr) (fun _ wr=>l.length-Rv wr tg)
 case atStart=>exact⟨0,[],_,fU.o,du.o,by decide,am.o⟩
 case round=>
  obtain⟨a,ns,rv,ht,hgr,iY,hx⟩:=hrel;have HT:=J ht;have HG:=J hgr;have HX:=J hx;have bI:=J ht.place;have nI:=J (ML (tg+1) tg wr (.slice A0 l.length c0) l a ht);obtain⟨A,c,rfl⟩:=hgr.row.shape;have k0:=hgr.blk.oneG;have cX:=hx.size;clear ht hgr hx;by_cases hal:a<l.length
  ·rw[decide_eq_true hal]at nI;by_cases hn60:ns.length<60
   ·have VF:decide ((ns.length:Int)<60)=true:=decide_eq_true (by omega);have XK:(ns.length:Int)<60:=by omega
    have ej:=B5 (l:=l) (a:=a) (n:=4-1+1) (by decide);have jG:=J (fun W h=>KI (tg+1) tg W (.slice A0 l.length c0) l a 1 4 h (by decide) (by decide) (by decide));have cV:=J (fun W h=>DH (tg+1) tg W (.slice A0 l.length c0) l (CP l a) 2 h (by decide) (by decide));have lW:CP l a=a+1:=by unfold CP;rw[if_pos hal]
    rw[lW]at jG cV;have qA:=G1 l (a+1);generalize CP l (a+1)=a2 at *;obtain⟨K,hK⟩:∃K:Nat,(K:Int)=1+Cm l a (4-1+1):=⟨(1+Cm l a (4-1+1)).toNat,by omega⟩;rw[<-hK]at jG;have Yo:1<=K:=by omega
    have hK4:K<=4:=by omega
    clear hK ej lW;obtain⟨bb,fA⟩:∃bb:Bool,bb=(Cm l (a+1) 2 == 0):=⟨_,rfl⟩;generalize Cm l (a+1) 2=y2 at *;go_wp2_with fail;refine nI.o.mono ?_
    rintro e w3 ⟨rfl,hd⟩;have mh:=J (HT.o.below (hd.belowN _));have gz:=J (HG.o.keep hd.ext);have ag:=J (HX.o.trans hd.ext);have pU:=hd.ext.size;have k0:=gz.o.blk.oneG;clear hd;go_wp2_with fail;refine(jG.o _ mh.o).mono ?_
    rintro e w4 ⟨rfl,Xt,eJ⟩;have HT4:=J Xt;have mp:=J (gz.o.kb (by have q1:=dB.o;have q2:=nG.o;omega) (eJ _));have aD:=J ((eJ w3.heap.size).to_ext ag.o (by have q1:=dB.o;have q2:=nG.o;omega) (by have q1:=dB.o;have q2:=nG.o;omega));have ZF:=(eJ 0).size;clear Xt eJ;go_wp2_with fail;refine(cV.o _ HT4.o).mono ?_
    rintro e w5 ⟨rfl,qm,bM⟩;have vi:=J qm;have nO:=J (mp.o.kb (by have q1:=dB.o;have q2:=nG.o;omega) (bM _));have ba:=J ((bM w4.heap.size).to_ext aD.o (by have q1:=dB.o;have q2:=nG.o;omega) (by have q1:=dB.o;have q2:=nG.o;omega));have zh:=(bM 0).size;clear qm bM;go_wp2_with fail;rw[<-fA];refine(Q1 K tg w5 (.slice A0 l.length c0) l a2 bb (vi.o.mono (by have q1:=dB.o;have q2:=nG.o;omega)) Yo (by omega)).mono ?_
    rintro e w6 ⟨x,v6,a6,rfl,be,hsz,jw,ac,ny,hk⟩;rw[qaG]at ac;have ZP:2 ^ K<=2 ^ 4:=qbw (by omega) hK4;have uQ:x.size<=15:=by omega
    have Y0:=J (CS.newR ac nO.o);have uC:=J (nO.o.kb (by have q1:=dB.o;have q2:=nG.o;omega) hk);have aZ:=J (hk.to_ext ba.o (by have q1:=dB.o;have q2:=nG.o;omega) (by have q1:=dB.o;have q2:=nG.o;omega));have r6:Hid (BR (tg+1) tg w6 (.slice A0 l.length c0) l a6):=J (vi.o.kb (hk.mono (by have q1:=dB.o;have q2:=nG.o;omega)) ny.1.blk ny.1.pos);have hle6:=ny.2;clear ac ny hk ZP hsz;obtain⟨A6,c6,rfl,_⟩:=Y0.o;have ak:=SZ x ns;go_wp2_with fail;refine(RU (tg+1) g w6 ns _ _ x uC.o Y0.o be (by omega) (by omega) (by omega)).mono ?_
    rintro r w7 ⟨Zc,rfl,iE,i2⟩;have dD:=J (iE.belowR uC.o);have qc:=J i2;have rZ:=J (r6.o.below dD.o);clear iE i2;go_wp2_with fail;go_roundw
    case rel=>exact⟨a6,_,Zc,rZ.o,qc.o,by omega,aZ.o.more (Below.mono dD.o (by have q1:=dB.o;have q2:=nG.o;omega))⟩
    case measure=>
     rw[rZ.o.place,bI.o];omega
   ·have VF:decide ((ns.length:Int)<60)=false:=decide_eq_false (by omega);go_wp2_with fail;refine nI.o.mono ?_
    rintro e w3 ⟨rfl,hd⟩;have gz:=J (HG.o.keep hd.ext);have ag:=J (HX.o.trans hd.ext);have k0:=gz.o.blk.oneG;clear hd;go_wp2_with fail;go_ret;exact⟨g,ns,_,rfl,by rw[<-dB.o];exact gz.o,iY,ag.o⟩
  ·rw[decide_eq_false hal]at nI;go_wp2_with fail;refine nI.o.mono ?_
   rintro e w3 ⟨rfl,hd⟩;have gz:=J (HG.o.keep hd.ext);have ag:=J (HX.o.trans hd.ext);clear hd;go_wp2_with fail;go_ret;exact⟨g,ns,_,rfl,by rw[<-dB.o];exact gz.o,iY,ag.o⟩
end Big
end Go.Proofs.YtkoaogkknnelaaaGreatDoor
