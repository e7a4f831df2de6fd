import Derived.Test.YtkoaogkknnelaaaGreatDoorM27
set_option linter.unusedVariables false
set_option linter.unusedSimpArgs false
set_option maxHeartbeats 8000000
set_option maxRecDepth 100000
namespace Go.Proofs.YtkoaogkknnelaaaGreatDoor
namespace Big
open Lib renaming hid → J
open Go.RowKit
def Hc(x:Nd)(ns:List Nd):Int:=if x∈ns then (Cq x ns:Int) else-1
theorem RS{x:Nd}{ns:List Nd}{i:Nat}(hi:i<ns.length)(hx:ns[i]=x)(h:∀j (hj:j<ns.length),j<i->ns[j]≠x):Hc x ns=(i:Int):=by
 unfold Hc;rw[if_pos (by rw[<-hx];exact List.getElem_mem hi),Lz hi hx h]
theorem Qs{x:Nd}{ns:List Nd}(h:∀j (hj:j<ns.length),j<ns.length->ns[j]≠x):Hc x ns= -1:=by
 unfold Hc;rw[if_neg];intro hm;obtain⟨j,hj,he⟩:=List.getElem_of_mem hm;exact h j hj hj he
theorem SU{x:Nd}{ns:List Nd}{i:Nat}(hi:i<ns.length)(h:∀j (hj:j<ns.length),j<i->ns[j]≠x)(hx:ns[i]≠x):∀j (hj:j<ns.length),j<i+1->ns[j]≠x:=by
 intro j hj r7;rcases Nat.lt_or_ge j i with h1|h1
 ·exact h j hj h1
 ·obtain rfl:j=i:=by omega
  exact hx
theorem KH(B g:Nat)(w:World)(ns:List Nd)(rv:Value)(h:GrR B g w ns rv)(x:Nd):
  Calls Tryz.prog 181 #[.pointer (some ⟨g,0,none⟩),ndV x] w fun e w'=>e= .returned (.int .i64 (Hc x ns))/\Ext w w':=by
 have i5:=J (fun i hi hx h=>RS (x:=x) (ns:=ns) (i:=i) hi hx h);have iy:=J (fun h=>Qs (x:=x) (ns:=ns) h);have Z1:=J (fun i hi h hx=>SU (x:=x) (ns:=ns) (i:=i) hi h hx);have hfew:=h.few;obtain⟨A,c,e7,aB⟩:=h.row.read;subst e7;have bH:=J aB;have HG:=J h;obtain⟨z0,z1,z2,z3,z4⟩:=x;simp only[ndV];obtain⟨tz,rD⟩:∃tz:ByteArray,tz=⟨z4.toArray⟩:=⟨_,rfl⟩;have ai:str z4= .string tz:=by rw[rD];rfl
 rw[ai];have qv:tz.toList=z4:=by rw[rD];exact ByteArray.toList_mk _
 have kE:=J qv;clear ai qv aB h rD;have aM:=J (Blk.new w 95 #[.int .i64 z0,.int .i64 z1,.int .i64 z2,.int .i64 z3,.string tz]);have ah:=J ((Ext.refl w).alloc (.cells #[.int .i64 z0,.int .i64 z1,.int .i64 z2,.int .i64 z3,.string tz] 95));obtain⟨w1,aL⟩:∃w1,w1=w.alloc (.cells #[.int .i64 z0,.int .i64 z1,.int .i64 z2,.int .i64 z3,.string tz] 95):=⟨_,rfl⟩;rw[<-aL]at aM ah;obtain⟨n,bh⟩:∃n,n=ns.length:=⟨_,rfl⟩;have HN:=J bh;rw[<-bh]at hfew;rw[<-bh]at HG;have fy:=(HG.o.keep ah.o).blk.cell 0;go_enter Tryz.func181,Tryz.ntmps181;go_upto_region 1 with fail;rw[<-aL];clear aL bh;obtain⟨k0,_,fA⟩:=(HG.o.keep ah.o).blk.oneG;clear fy;go_wp2_with fail;go_loopw [12] (fun s12 wr=>∃i:Nat,i<=n/\s12= .int .i64 (i:Int)/\Hid (∀j (hj:j<ns.length),j<i->ns[j]≠⟨z0,z1,z2,z3,z4⟩)/\Ext w1 wr) (fun s12 _=>n-(intOf s12).toNat)
 case atStart=>exact⟨0,Nat.zero_le _,rfl,J (fun j _ hj=>by omega),Ext.refl w1⟩
 case round=>
  obtain⟨i,hi,rfl,qp,hx⟩:=hrel;have HX:=J hx;have lr:IntKind.i64.wrap ((i:Int)+1)=(i:Int)+1:=IntWalk.i64_in _ (by omega);by_cases hlt:i<n
  ·have hit:i<ns.length:=by rw[<-HN.o];exact hlt
   obtain⟨gb,o,rfl,bO,hc⟩:=bH.o (by have:=HN.o;omega);obtain⟨p0,p1,p2,p3,p4⟩:=hc i hit;have oT:=ah.o.trans hx;rw[<-oT.cell bO]at p0 p1 p2 p3 p4;have al:gb<wr.heap.size:=Nat.lt_of_lt_of_le bO oT.size;have aF:=J (fun he=>i5.o i hit he qp.o);have oC:=J (fun he=>Z1.o i hit qp.o he);have gA:(0:Int)<=(i:Int):=by omega
   have hil:(i:Int)<(n:Int):=by omega
   clear hc oT hx;generalize ns[i]=x at *;clear hit;obtain⟨y0,y1,y2,y3,y4⟩:=x;simp only at p0 p1 p2 p3 p4;have VP:str y4= .string ⟨y4.toArray⟩:=rfl;rw[VP]at p4;have VN:(⟨y4.toArray⟩:ByteArray).toList=y4:=ByteArray.toList_mk _;have UN:=J VN;clear VP VN;have WS:=J (Blk.new wr 95 #[.int .i64 y0,.int .i64 y1,.int .i64 y2,.int .i64 y3,.string ⟨y4.toArray⟩]);have WR:=J ((Ext.refl wr).alloc (.cells #[.int .i64 y0,.int .i64 y1,.int .i64 y2,.int .i64 y3,.string ⟨y4.toArray⟩] 95));obtain⟨wy,yP⟩:∃wy,wy=wr.alloc (.cells #[.int .i64 y0,.int .i64 y1,.int .i64 y2,.int .i64 y3,.string ⟨y4.toArray⟩] 95):=⟨_,rfl⟩;rw[<-yP]at WS WR;go_upto_region 4 with fail;rw[<-yP];clear yP p0 p1 p2 p3 p4;have mr:=J (HX.o.trans WR.o);have q0:=(aM.o.ext mr.o).five;have r0:=WS.o.five;by_cases e0:y0=z0
   case neg=>
    have b0:(y0 == z0)=false:=by rw[beq_eq_false_iff_ne];exact e0
    have c0:(y0 != z0)=true:=by rw[bne_iff_ne];exact e0
    have dM:=J (oC.o (fun he=>e0 (by injection he)));clear e0 aF oC;generalize (⟨y4.toArray⟩:ByteArray)=ty at *;go_wp2_with fail;go_roundw
    case rel=>exact⟨i+1,by omega,by go_num,dM.o,mr.o⟩
    case measure=>simp[intOf];omega
   case pos=>
    subst e0;by_cases e1:y1=z1
    case neg=>
     have b1:(y1 == z1)=false:=by rw[beq_eq_false_iff_ne];exact e1
     have c1:(y1 != z1)=true:=by rw[bne_iff_ne];exact e1
     have dM:=J (oC.o (fun he=>e1 (by injection he)));clear e1 aF oC;generalize (⟨y4.toArray⟩:ByteArray)=ty at *;go_wp2_with fail;go_roundw
     case rel=>exact⟨i+1,by omega,by go_num,dM.o,mr.o⟩
     case measure=>simp[intOf];omega
    case pos=>
     subst e1;by_cases e2:y2=z2
     case neg=>
      have b2:(y2 == z2)=false:=by rw[beq_eq_false_iff_ne];exact e2
      have c2:(y2 != z2)=true:=by rw[bne_iff_ne];exact e2
      have dM:=J (oC.o (fun he=>e2 (by injection he)));clear e2 aF oC;generalize (⟨y4.toArray⟩:ByteArray)=ty at *;go_wp2_with fail;go_roundw
      case rel=>exact⟨i+1,by omega,by go_num,dM.o,mr.o⟩
      case measure=>simp[intOf];omega
     case pos=>
      subst e2;by_cases e3:y3=z3
      case neg=>
       have b3:(y3 == z3)=false:=by rw[beq_eq_false_iff_ne];exact e3
       have c3:(y3 != z3)=true:=by rw[bne_iff_ne];exact e3
       have dM:=J (oC.o (fun he=>e3 (by injection he)));clear e3 aF oC;generalize (⟨y4.toArray⟩:ByteArray)=ty at *;go_wp2_with fail;go_roundw
       case rel=>exact⟨i+1,by omega,by go_num,dM.o,mr.o⟩
       case measure=>simp[intOf];omega
      case pos=>
       subst e3;by_cases e4:y4=z4
       case neg=>
        have b4:((⟨y4.toArray⟩:ByteArray).toList == (tz:ByteArray).toList)=false:=by rw[UN.o,kE.o,beq_eq_false_iff_ne];exact e4
        have c4:((⟨y4.toArray⟩:ByteArray).toList != (tz:ByteArray).toList)=true:=by rw[UN.o,kE.o,bne_iff_ne];exact e4
        have dM:=J (oC.o (fun he=>e4 (by injection he)));clear e4 aF oC;generalize (⟨y4.toArray⟩:ByteArray)=ty at *;go_wp2_with fail;go_roundw
        case rel=>exact⟨i+1,by omega,by go_num,dM.o,mr.o⟩
        case measure=>simp[intOf];omega
       case pos=>
        subst e4;have b4:((⟨y4.toArray⟩:ByteArray).toList == (tz:ByteArray).toList)=true:=by rw[UN.o,kE.o,beq_self_eq_true]
        have iG:=J (aF.o rfl);generalize (⟨y4.toArray⟩:ByteArray)=ty at *;clear aF oC;go_wp2_with fail;go_ret;exact⟨by rw[iG.o];rfl,ah.o.trans mr.o⟩
  ·obtain rfl:i=n:=by omega
   have HE:=J (iy.o (fun j hj _=>qp.o j hj (by rw[HN.o];exact hj)));clear hx;go_wp2_with fail;go_ret;exact⟨by rw[HE.o];rfl,ah.o.trans HX.o⟩
def Hm(B g:Nat)(ns:List Nd)(rv:Value)(x:Nd)(w:World)(e:Ending)(w':World):Prop:=
 ∃rv',e= .returned (.tuple #[.int .i64 ((AN ns x).1:Int),.int .i64 0])/\KG g g rv rv' w w'/\GrR B g w' (AN ns x).2 rv'
theorem Mg(B g:Nat)(w:World)(ns:List Nd)(rv:Value)(h:GrR B g w ns rv)(x:Nd)(hx:CP ns.length x)(hin:x∈ns):
  Calls Tryz.prog 138 #[.pointer (some ⟨g,0,none⟩),ndV x] w (Hm B g ns rv x w):=by
 have dn:=J (fun W h=>KF B g W ns rv h x hx);have iy:=J (fun W h=>KH B g W ns rv h x);have vy:Hc x ns=(Cq x ns:Int):=by unfold Hc;rw[if_pos hin]
 rw[vy]at iy;have HG:=J h;have dS:(AN ns x).1=Cq x ns:=by unfold AN;rw[if_pos hin]
 have dp:(AN ns x).2=ns:=by unfold AN;rw[if_pos hin]
 have jZ:=J dS;have k7:=J dp;clear dS dp hin vy hx;obtain⟨A,c,rfl⟩:=h.row.shape;clear h;generalize hpl:Cq x ns=pl at *;clear hpl;obtain⟨k,a,d,n,t⟩:=x;simp only[ndV]at dn iy ⊢;obtain⟨s,hs⟩:∃s:ByteArray,s=⟨t.toArray⟩:=⟨_,rfl⟩;have ai:str t= .string s:=by rw[hs];rfl
 rw[ai]at dn iy ⊢;clear hs ai;have aM:=J (Blk.new w 95 #[.int .i64 k,.int .i64 a,.int .i64 d,.int .i64 n,.string s]);have ah:=J ((Ext.refl w).alloc (.cells #[.int .i64 k,.int .i64 a,.int .i64 d,.int .i64 n,.string s] 95));obtain⟨w1,aL⟩:∃w1,w1=w.alloc (.cells #[.int .i64 k,.int .i64 a,.int .i64 d,.int .i64 n,.string s] 95):=⟨_,rfl⟩;rw[<-aL]at aM ah;have q0:=aM.o.five;have Ye:(0:Int)<=(pl:Int):=by omega
 go_enter Tryz.func138,Tryz.ntmps138;go_upto_region 1 with fail;rw[<-aL];clear aL;go_wp2_with fail;refine(dn.o w1 (HG.o.keep ah.o)).mono ?_
 rintro e w2 ⟨rfl,au⟩;have aq:=J (ah.o.trans au);have aP:=J (aM.o.ext au);clear q0 au;have q0:=aP.o.five;go_wp2_with fail;refine(iy.o w2 (HG.o.keep aq.o)).mono ?_
 rintro e w3 ⟨rfl,ae⟩;have aj:=J (aq.o.trans ae);clear q0 ae;go_wp2_with fail;go_ret2;refine⟨_,by rw[jZ.o];rfl,KG.of_ext aj.o,?_⟩;rw[k7.o];exact HG.o.keep aj.o
theorem Mh(B g:Nat)(w:World)(ns:List Nd)(rv:Value)(h:GrR B g w ns rv)(x:Nd)(hx:CP ns.length x)(hin:x∉ns)(a5:ns.length<4096):
  Calls Tryz.prog 138 #[.pointer (some ⟨g,0,none⟩),ndV x] w (Hm B g ns rv x w):=by
 have dn:=J (fun W h=>KF B g W ns rv h x hx);have iy:=J (fun W h=>KH B g W ns rv h x);have vy:Hc x ns= -1:=by unfold Hc;rw[if_neg hin]
 rw[vy]at iy;have HG:=J h;have dS:(AN ns x).1=ns.length:=by unfold AN;rw[if_neg hin]
 have dp:(AN ns x).2=ns++[x]:=by unfold AN;rw[if_neg hin]
 have cD:Hid (Aw (ns++[x])):=J (by rw[<-dp];exact h.ok.put hx);have jZ:=J dS;have k7:=J dp;clear dS dp hin vy hx;have lC:=h.lo;have nh:=J h.apart2;have zG:=h.lt;obtain⟨A,c,rfl⟩:=h.row.shape;clear h;obtain⟨i0,hi,aU,hz1,a9⟩:=info_parts Dj;obtain⟨k,a,d,n,t⟩:=x;simp only[ndV]at dn iy ⊢;obtain⟨s,hs⟩:∃s:ByteArray,s=⟨t.toArray⟩:=⟨_,rfl⟩;have p9:Hid (ndC ⟨k,a,d,n,t⟩=[.int .i64 k,.int .i64 a,.int .i64 d,.int .i64 n,.string s]):=J (by rw[hs];rfl);have ai:str t= .string s:=by rw[hs];rfl
 rw[ai]at dn iy ⊢;clear hs ai;have aM:=J (Blk.new w 95 #[.int .i64 k,.int .i64 a,.int .i64 d,.int .i64 n,.string s]);have ah:=J ((Ext.refl w).alloc (.cells #[.int .i64 k,.int .i64 a,.int .i64 d,.int .i64 n,.string s] 95));obtain⟨w1,aL⟩:∃w1,w1=w.alloc (.cells #[.int .i64 k,.int .i64 a,.int .i64 d,.int .i64 n,.string s] 95):=⟨_,rfl⟩;have eF:w1.heap.size=w.heap.size+1:=by rw[aL];simp
 rw[<-aL]at aM ah;have q0:=aM.o.five;have oc:decide ((ns.length:Int)>=4096)=false:=decide_eq_false (by omega);have Wt:decide (4096<=(ns.length:Int))=false:=decide_eq_false (by omega);go_enter Tryz.func138,Tryz.ntmps138;go_upto_region 1 with fail;rw[<-aL];clear aL;go_wp2_with fail;refine(dn.o w1 (HG.o.keep ah.o)).mono ?_
 rintro e w2 ⟨rfl,au⟩;have aq:=J (ah.o.trans au);have aP:=J (aM.o.ext au);clear q0 au;have q0:=aP.o.five;go_wp2_with fail;refine(iy.o w2 (HG.o.keep aq.o)).mono ?_
 rintro e wA ⟨rfl,ae⟩;have ax:=J (aq.o.trans ae);have yl:=J (aP.o.ext ae);have oN:=J (HG.o.keep ax.o);have VS:w.heap.size<wA.heap.size:=by have h1:=ae.size;have h2:=aP.o.lt;omega
 clear q0 ae;have q0:=yl.o.five;obtain⟨k0,f0,fA⟩:=oN.o.blk.oneG;go_upto_region 8 with fail;have jo:Hid (∀w':World,(wA.alloc (.cells #[.int .i64 k,.int .i64 a,.int .i64 d,.int .i64 n,.string s] 95)).drew.grownBy w' (Value.slice A ns.length c).ownBlock->Blk w' g 71 #[.slice A ns.length c]/\wA.grownBy w' (Value.slice A ns.length c).ownBlock):=J (fun w' al=>by
  have kQ:wA.grownBy w' (Value.slice A ns.length c).ownBlock:=by
   refine⟨al.os,al.tape,al.output,?_,fun i h1 h2=> ?_⟩
   ·have:=al.size;simp only[World.size_drew,World.size_alloc]at this;omega
   ·exact(al.block i (by simp only[World.size_drew,World.size_alloc];omega) h2).trans (Below.heap_alloc wA _ i h1)
  exact⟨(kQ.block g fA (fun e=>nh.o e.symm)).trans oN.o.blk,kQ⟩)
 have dW:Hid (∀(j:Nat) (u:Value),[.int .i64 k,.int .i64 a,.int .i64 d,.int .i64 n,.string s][j]? =some u->(wA.alloc (.cells #[.int .i64 k,.int .i64 a,.int .i64 d,.int .i64 n,.string s] 95)).drew.cell? ((⟨wA.heap.size,0,none⟩:Addr).add j)=some u):=J (fun j u hj=>by
  have h1:=(Blk.new wA 95 #[.int .i64 k,.int .i64 a,.int .i64 d,.int .i64 n,.string s]).drew.cell j;have h2:(⟨wA.heap.size,0,none⟩:Addr).add j=⟨wA.heap.size,j,none⟩:=by
   unfold Addr.add;split
   ·rename_i h;subst h;rfl
   ·simp
  rw[h2,h1,<-hj];simp)
 have cZ:Hid ((wA.alloc (.cells #[.int .i64 k,.int .i64 a,.int .i64 d,.int .i64 n,.string s] 95)).drew.ownsRow B 95 5 (.slice A ns.length c) ns.length (Bm ns)):=J (Ad oN.o.row (fun k _ hk=>Below.heap_alloc wA _ k hk));have gH:Hid (ns.length+1<=maxLen):=J (by unfold maxLen;omega);have dM:Hid ((ns.length+1)*48<=140737488355328):=J (by omega);have sW:Hid (B<=(wA.alloc (.cells #[.int .i64 k,.int .i64 a,.int .i64 d,.int .i64 n,.string s] 95)).drew.heap.size):=J (by simp only[World.size_drew,World.size_alloc];omega)
 go_region_law (refine step_append_lies _ rfl (.tmp 27) (.tmp 29) 32 rfl B 95 i0 _ 5 48 Tryz.underlying32 hi aU hz1 a9 rfl (by decide) _ ns.length (Bm ns) rfl cZ.o ⟨wA.heap.size,0,none⟩ 1 1 [.int .i64 k,.int .i64 a,.int .i64 d,.int .i64 n,.string s] rfl rfl dW.o (by simp[Value.oneCell']) (by decide) gH.o dM.o sW.o _ rfl ?_;intro g' c' w' ag al hat hlt;have gF:=J ag;have cS:=J (jo.o w' al);have jz:=J hat;clear ag al hat;have m0:=cS.o.1.oneG)
 all_goals
  have zl:g'≠g:=by
   rcases jz.o with h4|h4
   ·exact fun e=>nh.o (h4.trans (congrArg some e))
   ·simp only[World.size_drew,World.size_alloc]at h4;omega
  have eC:=cS.o.1.set_ 0 (.slice (some ⟨g',0,none⟩) (ns.length+1) c');have aH:=AU (w':=w'.setCell ⟨g,0,none⟩ (.slice (some ⟨g',0,none⟩) (ns.length+1) c')) gF.o (fun k hk=>Below.heap_setCell _ _ _ k (by
   simp only[Value.ownBlock,Option.some.injEq]at hk;show k≠g;omega))
  have fh:∀k,k<w.heap.size->k≠g->(Value.slice A ns.length c).ownBlock≠some k->(w'.setCell ⟨g,0,none⟩ (.slice (some ⟨g',0,none⟩) (ns.length+1) c')).heap[k]? =w.heap[k]? :=fun k h1 h2 h3=>
   (Below.heap_setCell _ _ _ k h2).trans ((cS.o.2.block k (by omega) (fun e=>h3 e.symm)).trans (ax.o.block k h1))
  have uS:(w'.setCell ⟨g,0,none⟩ (.slice (some ⟨g',0,none⟩) (ns.length+1) c')).os=w.os/\(w'.setCell ⟨g,0,none⟩ (.slice (some ⟨g',0,none⟩) (ns.length+1) c')).tape=w.tape/\(w'.setCell ⟨g,0,none⟩ (.slice (some ⟨g',0,none⟩) (ns.length+1) c')).output=w.output/\wA.heap.size<=(w'.setCell ⟨g,0,none⟩ (.slice (some ⟨g',0,none⟩) (ns.length+1) c')).heap.size:=by
   have h2:=Below.setCell (Below.refl g w') (p:=⟨g,0,none⟩) (Nat.le_refl _) (.slice (some ⟨g',0,none⟩) (ns.length+1) c');have h4:=cS.o.2;exact⟨h2.os.trans (h4.os.trans ax.o.os),h2.tape.trans (h4.tape.trans ax.o.tape),h2.output.trans (h4.output.trans ax.o.output),Nat.le_trans h4.size h2.size⟩
  generalize (w'.setCell ⟨g,0,none⟩ (.slice (some ⟨g',0,none⟩) (ns.length+1) c'))=wB at *;have qj:=J eC;have ee:=J aH;have ki:=J fh;have j6:=J uS;clear q0 k0 f0 m0 aH fh uS;obtain⟨k0,f0,zF⟩:=Blk.oneG eC;clear eC;have aL:IntKind.i64.wrap ((ns.length:Int)+1-1)=(ns.length:Int):=by rw[IntKind.wrap_i64];omega
  have aY:IntKind.i64.wrap (((ns.length+1:Nat):Int)-1)=(ns.length:Int):=by rw[IntKind.wrap_i64];omega
  go_wp2_with fail;go_ret2;have XC:=j6.o.2.2.2;refine⟨(.slice (some ⟨g',0,none⟩) (ns.length+1) c'),by rw[jZ.o];rfl,⟨j6.o.1,j6.o.2.1,j6.o.2.2.1,by omega,fun k h1 h2 h3 h4=>ki.o k h1 h2 h4,fun j hj=> ?_⟩,?_⟩
  ·have h5:g'=j:=Option.some.inj hj;rcases jz.o with h4|h4
   ·exact .inl (h4.trans (congrArg some h5))
   ·simp only[World.size_drew,World.size_alloc]at h4;exact .inr (by omega)
  ·rw[k7.o];refine⟨qj.o,?_,lC,cD.o,by simp only[List.length_append,List.length_singleton];omega⟩;unfold Ak;rw[Cz,EY,p9.o,List.length_append,List.length_singleton];exact ee.o
theorem Rc(B g:Nat)(w:World)(ns:List Nd)(rv:Value)(h:GrR B g w ns rv)(x:Nd)(hx:CP ns.length x)(a5:ns.length<4096):
  Calls Tryz.prog 138 #[.pointer (some ⟨g,0,none⟩),ndV x] w (Hm B g ns rv x w):=by
 by_cases hin:x∈ns
 ·exact Mg B g w ns rv h x hx hin
 ·exact Mh B g w ns rv h x hx hin a5
theorem Bv.shape{B n:Nat}{w:World}{v:Value}{S:List Nat}(h:Bv B w v n S):∃A c,v= .slice A n c:=Am h
theorem Bv.pos{B n:Nat}{w:World}{v:Value}{S:List Nat}(h:Bv B w v n S)(hn:0<n):∃g c,v= .slice (some ⟨g,0,none⟩) n c:=by
 rcases h.2 with ⟨_,h2⟩|⟨g,cap,cur,hv,_⟩
 ·omega
 ·exact⟨g,cap,hv⟩
theorem Bv.nil(B:Nat)(w:World):Bv B w (.slice none 0 0) 0 []:=World.ownsRow_nil w B _ 1
def Fu(B g:Nat)(ns:List Nd)(rv:Value)(e:Ex)(w:World)(i:Nat)(at_:Value)(wr:World):Prop:=
 ∃rv',KG g g rv rv' w wr/\GrR B g wr (BD ([],ns) ((Ag 0 e).take i)).2 rv'/\Bv w.heap.size wr at_ i (BD ([],ns) ((Ag 0 e).take i)).1/\EM rv' at_
theorem Fu.start{B g:Nat}{ns:List Nd}{rv:Value}{e:Ex}{w w1:World}(h:GrR B g w ns rv)(hx:Ext w w1):Fu B g ns rv e w 0 (.slice none 0 0) w1:=
 ⟨rv,KG.of_ext hx,by rw[List.take_zero];exact h.keep hx,by rw[List.take_zero];exact Bv.nil _ _,fun _ _ h2=>by cases h2⟩
theorem Fu.next {B g i g6:Nat} {ns gs:List Nd} {rv yC rv2:Value} {e:Ex} {w wr w1 w2 w6:World} {at_ at2:Value} {bp:List Nat} {o:Obj} {x:Nd} (h0:GrR B g w ns rv)
  (ai:BD ([],ns) ((Ag 0 e).take (i+1))=(bp++[(AN gs (BX bp x)).1],(AN gs (BX bp x)).2))
  (h1:KG g g rv yC w wr) (ha:EM yC at_) (hr:Bv w.heap.size wr at_ i bp) (hx:Ext wr w1) (hk:KG g g yC rv2 w1 w2) (hp:GrR B g w2 (AN gs (BX bp x)).2 rv2)
  (al:(w2.alloc o).grownBy w6 at_.ownBlock) (hat:at_.ownBlock=some g6\/g6=(w2.alloc o).heap.size) (hu:at2.ownBlock=some g6)
  (hn:Bv w.heap.size w6 at2 (i+1) (bp++[(AN gs (BX bp x)).1])):Fu B g ns rv e w (i+1) at2 w6:=by
 have hs:(w2.alloc o).heap.size=w2.heap.size+1:=by simp
 have bO:=h0.lt;have fg:=(KG.of_ext hx).trans hk;have cQ:=h1.size;have ja:=fg.size;have Y6:at_.ownBlock≠some g:=fun he=>by have:=(hr.blt g he).1;omega
 have jv:∀j,rv2.ownBlock=some j->at_.ownBlock≠some j:=fun j hj he=>by
  rcases fg.move j hj with h5|h5
  ·exact ha j h5 he
  ·have:=(hr.blt j he).2;omega
 have aC:∀j,j<w2.heap.size->at_.ownBlock≠some j->w6.heap[j]? =w2.heap[j]? :=fun j hj hne=>(al.block j (by omega) (fun e=>hne e.symm)).trans (Below.heap_alloc w2 o j hj)
 have uI:=al.size;have jO:=hp.lt;refine⟨rv2,?_,?_,?_,?_⟩
 ·have k2:=h1.trans fg;refine⟨al.os.trans k2.os,al.tape.trans k2.tape,al.output.trans k2.output,by omega,fun k p1 p2 p3 p4=>(aC k (by have:=k2.size;omega) (fun he=>by have:=(hr.blt k he).1;omega)).trans (k2.block k p1 p2 p3 p4),k2.move⟩
 ·rw[ai];exact⟨(aC g jO Y6).trans hp.blk,AU hp.row (fun k hk'=>aC k (Ax hp.row hk') (jv k hk')),hp.lo,hp.ok,hp.few⟩
 ·rw[ai];exact hn
 ·intro j hj he;rw[hu]at he;injection he with he
  subst he;rcases hat with h5|h5
  ·exact jv g6 hj h5
  ·have:=Ax hp.row hj;omega
def Nl(B g:Nat)(ns:List Nd)(rv:Value)(e:Ex)(w:World)(r:Ending)(w':World):Prop:=
 ∃(rv':Value) (gi ci:Nat) (more:List Nat),r= .returned (.tuple #[.slice (some ⟨gi,0,none⟩) e.size ci,.int .i64 0])/\more.length+1=e.size/\w'.cell? ⟨gi,more.length,none⟩=some (.int .i64 ((Ai ns e).1:Int))/\KG g g rv rv' w w'/\GrR B g w' (Ai ns e).2 rv'
theorem Rf(B g:Nat)(w:World)(ns:List Nd)(rv v:Value)(e:Ex)(h:GrR B g w ns rv)(hv:Cg g g rv w v (Ag 0 e))(eT:e.Good)(cQ:e.size<=200)(jh:e.depth<=40)(a5:ns.length+e.size<=4096):
  Calls Tryz.prog 79 #[.pointer (some ⟨g,0,none⟩),v] w (Nl B g ns rv e w):=by
 have ox:=J (Kt w v (Ag 0 e) hv.read (by rw[AF];omega) (K5 e eT 0));rw[Ii e eT,decide_eq_true ⟨cQ,jh⟩]at ox;have HG:=J h;have HV:=J hv;obtain⟨i0,pL,aU,hz1,a9⟩:=info_parts G8;obtain⟨n,hn⟩:∃n,n=e.size:=⟨_,rfl⟩;have kS:=AF e 0;obtain⟨A1,c1,rfl,_⟩:=hv;rw[kS,<-hn]at ox HV ⊢;unfold Nl;rw[<-hn];have HN:=J hn;have iz:=J kS;have dT:1<=n:=by rw[hn];exact e.size_pos
 have hn2:n<=200:=by omega
 obtain⟨A,c,rfl⟩:=h.row.shape;have cP:=J eT;have UV:=J a5;have k0:=h.blk.oneG;clear h hn kS eT cQ jh a5 k0;go_enter Tryz.func79,Tryz.ntmps79;go_wp2_with fail;refine ox.o.mono ?_
 rintro r w1 ⟨rfl,am⟩;have ah:=J am;have k0:=(HG.o.keep am).blk.oneG;clear am;have aL:∀i:Nat,i<n->IntKind.i64.wrap ((i:Int)+1)=(i:Int)+1:=fun i hi=>IntWalk.i64_in _ (by omega)
 have wI:=J aL;clear aL;go_wp2_with fail;go_loopw [7,22] (fun s7 yz wr=>∃i:Nat,i<=n/\yz= .int .i64 (i:Int)/\Fu B g ns (.slice A ns.length c) e w i s7 wr) (fun _ yz _=>n-(intOf yz).toNat)
 case atStart=>exact⟨0,Nat.zero_le _,rfl,Fu.start HG.o ah.o⟩
 case round=>
  obtain⟨i,hi,rfl,aJ⟩:=hrel;by_cases hlt:i<n
  ·obtain⟨aZ,ju,al,aH,jv⟩:=aJ;have tQ:i<e.size:=by rw[<-HN.o];exact hlt
   have hl:i<(Ag 0 e).length:=by rw[AF];exact tQ
   have ml:=FG.at HG.o.ok cP.o i (Nat.le_of_lt tQ);have av:=H7 e cP.o 0 i _ (List.getElem?_eq_getElem hl);rw[Nat.zero_add]at av;have iY:=JI ml av;have sn:=ml.big;have ao:=ml.len;have bO:=HG.o.lt;have eL:=HV.o.keep ju;have aF:=J (GN ([],ns) (Ag 0 e) i hl);obtain⟨A2,c2,he2,hc2⟩:=eL;obtain⟨q,o,hA,hq,p2,p3,p4,b7⟩:=hc2 (by omega);obtain⟨y0,y1,y2,y3,y4⟩:=b7 i hl;simp only[Value.slice.injEq]at he2;obtain⟨rfl,jb,rfl⟩:=he2;clear jb;subst hA;have hil:(i:Int)<(n:Int):=by omega
   have gA:(0:Int)<=(i:Int):=by omega
   have lr:=wI.o i hlt;clear hc2 b7 p4;generalize ai:BD ([],ns) (List.take i (Ag 0 e))=st at *;clear ai;obtain⟨bp,gs⟩:=st;simp only at al aH ao ml iY sn;rw[GU]at aF;simp only at aF;have xB:=jv;have fL:=J (fun rv2 w1 w2 w6 at2 g6 o hx hk hp al hat hu hn=>Fu.next (rv2:=rv2) (w1:=w1) (w2:=w2) (w6:=w6) (at2:=at2) (g6:=g6) (o:=o) HG.o aF.o ju jv aH hx hk hp al hat hu hn);have az:=J (fun W h=>Rc B g W gs aZ h _ iY (by have:=UV.o;omega));obtain⟨A3,c3,rfl⟩:=aH.shape;have jM:∀j,j<i->∃ga,A3=some ⟨ga,0,none⟩/\ga<wr.heap.size/\wr.cell? ⟨ga,j,none⟩=some (.int .i64 ((bp.getD j 0:Nat):Int)):=fun j hj=>by
    obtain⟨ga,ca,he⟩:=aH.pos (by omega);injection he with he1 he2 he3
    subst he1;exact⟨ga,rfl,(aH.blt ga rfl).2,aH.get j hj⟩
   have lU:=J jM;have eV:=J aH;have gW:=J al;have qZ:=J ju;have X2:=ju.size;have iO:=av.args_len;have gG:=J av.oper;clear jM aH al ju jv ml iY aF;generalize (Ag 0 e)[i]=x at *;clear hl;have Vy:Hid (EM aZ (.slice A3 i c3)):=J xB;clear xB;rcases av with ⟨k,t,rfl,ho⟩|⟨k,nn,j,rfl,ho,hj⟩|⟨k,j,jq,rfl,hk,hj,tP⟩
   ·have jI:BX bp ⟨(k:Int),0,0,0,t⟩=⟨(k:Int),0,0,0,t⟩:=by
     have:=ho.lt;unfold BX;rw[if_neg (by simp only;omega),if_neg (by simp only;omega)]
    rw[jI]at az fL;rw[Dd ho]at gG;simp only at gG;have aK:=J (fun W=>Bx W (k:Int));rw[gG.o]at aK;clear jI ho gG;simp only[ndV]at az;simp only at y0 y1 y2 y3 y4;generalize hkk:(k:Int)=kk at *;obtain⟨s,hs⟩:∃s:ByteArray,s=⟨(t:List UInt8).toArray⟩:=⟨_,rfl⟩;have ai:str t= .string s:=by rw[hs];rfl
    rw[ai]at y4 az;clear hs ai hkk;have aQ:=J (Blk.new wr 95 #[.int .i64 kk,.int .i64 0,.int .i64 0,.int .i64 0,.string s]);have ay:=J ((Ext.refl wr).alloc (.cells #[.int .i64 kk,.int .i64 0,.int .i64 0,.int .i64 0,.string s] 95));obtain⟨w7,cU⟩:∃w7,w7=wr.alloc (.cells #[.int .i64 kk,.int .i64 0,.int .i64 0,.int .i64 0,.string s] 95):=⟨_,rfl⟩;rw[<-cU]at aQ ay;have q0:=aQ.o.five;go_upto_region 8 with fail;rw[<-cU];clear cU y0 y1 y2 y3 y4;go_wp2_with fail;refine(aK.o _).mono ?_
    rintro r w8 ⟨rfl,rfl⟩;go_wp2_with fail;refine(aK.o _).mono ?_
    rintro r w9 ⟨rfl,rfl⟩;go_wp2_with fail;refine(az.o w7 (gW.o.keep ay.o)).mono ?_
    rintro r de ⟨nv2,rfl,cg,du⟩;have oJ:=J cg;have oO:=J du;have im:=(KG.of_ext ay.o).trans cg;have uM:wr.heap.size<=de.heap.size:=im.size;have ep:Bv w.heap.size de (.slice A3 i c3) i bp:=AU eV.o (fun k hk=>im.block k (Ax eV.o hk) (fun e=>by have:=(eV.o.blt k hk).1;omega) (fun e=>by have:=(eV.o.blt k hk).1;omega) (fun e=>Vy.o k e hk));have jY:=J ep;clear im ep cg du q0;have fd:=J (fun w6 at2 g6 o al hat hu hn=>fL.o nv2 w7 de w6 at2 g6 o ay.o oJ.o oO.o al hat hu hn);generalize (AN gs _).1=pid at *;have bu:Hid (i+1<=maxLen):=J (by unfold maxLen;omega);have br:Hid ((i+1)*8<=140737488355328):=J (by omega);have fi:Hid ((de.alloc (.cells #[.int .i64 (pid:Int)] 3)).ownsRow w.heap.size 3 1 (.slice A3 i c3) i (bp.map din)):=J (Ad jY.o (fun k _ hk=>Below.heap_alloc _ _ k hk));have bC:=J (Bw de 3 [.int .i64 (pid:Int)]);have bA:Hid (w.heap.size<=(de.alloc (.cells #[.int .i64 (pid:Int)] 3)).heap.size):=J (by simp;omega);go_wp2_with (at_builtin;go_must (refine wpList_append_lies _ rfl _ _ 41 rfl w.heap.size 3 i0 _ 1 8 Tryz.underlying41 pL aU hz1 a9 rfl (by decide) (.slice A3 i c3) i (bp.map din) rfl fi.o ⟨de.heap.size,0,none⟩ 1 1 [.int .i64 (pid:Int)] rfl rfl bC.o (by simp[Value.oneCell']) (by decide) bu.o br.o bA.o _ rfl ?_;intro g6 c6 w6 aT bM bR ey;have dj:Hid (Bv w.heap.size w6 (.slice (some ⟨g6,0,none⟩) (i+1) c6) (i+1) (bp++[pid])):=J (by unfold Bv;rw[List.map_append];exact aT);have xv:=J (fd.o w6 (.slice (some ⟨g6,0,none⟩) (i+1) c6) g6 _ bM bR rfl dj.o);clear aT bM bR ey));go_roundw
    case rel=>exact⟨i+1,hlt,by go_num,xv.o⟩
    case measure=>simp[intOf];omega
   ·have jI:BX bp ⟨(k:Int),(j:Int),0,nn,[]⟩=⟨(k:Int),((bp.getD j 0:Nat):Int),0,nn,[]⟩:=by
     have:=ho.1;unfold BX;rw[if_pos (by simp only;omega),if_neg (by simp only;omega)];rfl
    rw[jI]at az fL;rw[D2 ho]at gG;simp only at gG;have aK:=J (fun W=>Bx W (k:Int));rw[gG.o]at aK;obtain⟨ga,rfl,fB,oM⟩:=lU.o j hj;have tn:=J oM;have pK:(j:Int)<(i:Int):=by omega
    have o3:(0:Int)<=(j:Int):=by omega
    clear jI ho hj gG oM;generalize ((bp.getD j 0:Nat):Int)=va at *;simp only[ndV]at az;simp only at y0 y1 y2 y3 y4;generalize hkk:(k:Int)=kk at *;obtain⟨s,hs⟩:∃s:ByteArray,s=⟨([]:List UInt8).toArray⟩:=⟨_,rfl⟩;have ai:str []= .string s:=by rw[hs];rfl
    rw[ai]at y4 az;clear hs ai hkk;have aQ:=J (Blk.new wr 95 #[.int .i64 kk,.int .i64 (j:Int),.int .i64 0,.int .i64 nn,.string s]);have ay:=J ((Ext.refl wr).alloc (.cells #[.int .i64 kk,.int .i64 (j:Int),.int .i64 0,.int .i64 nn,.string s] 95));obtain⟨w7,cU⟩:∃w7,w7=wr.alloc (.cells #[.int .i64 kk,.int .i64 (j:Int),.int .i64 0,.int .i64 nn,.string s] 95):=⟨_,rfl⟩;rw[<-cU]at aQ ay;have q0:=aQ.o.five;go_upto_region 8 with fail;rw[<-cU];clear cU y0 y1 y2 y3 y4;go_wp2_with fail;refine(aK.o _).mono ?_
    rintro r w8 ⟨rfl,rfl⟩;have v0:=(ay.o.cell fB).trans tn.o;have f1:=aQ.o.frozen 1;have dk:=J (aQ.o.set_ 1 (.int .i64 va));have dz:=J (ay.o.setCell (p:=⟨wr.heap.size,1,none⟩) (Nat.le_refl _) (.int .i64 va));have r0:=Blk.five dk.o;go_wp2_with fail;refine(aK.o _).mono ?_
    rintro r w9 ⟨rfl,rfl⟩;go_wp2_with fail;refine(az.o (w7.setCell ⟨wr.heap.size,1,none⟩ (.int .i64 va)) (gW.o.keep dz.o)).mono ?_
    rintro r de ⟨nv2,rfl,cg,du⟩;have oJ:=J cg;have oO:=J du;have im:=(KG.of_ext dz.o).trans cg;have uM:wr.heap.size<=de.heap.size:=im.size;have ep:Bv w.heap.size de (.slice (some ⟨ga,0,none⟩) i c3) i bp:=AU eV.o (fun k hk=>im.block k (Ax eV.o hk) (fun e=>by have:=(eV.o.blt k hk).1;omega) (fun e=>by have:=(eV.o.blt k hk).1;omega) (fun e=>Vy.o k e hk));have jY:=J ep;clear im ep cg du q0;have fd:=J (fun w6 at2 g6 o al hat hu hn=>fL.o nv2 (w7.setCell ⟨wr.heap.size,1,none⟩ (.int .i64 va)) de w6 at2 g6 o dz.o oJ.o oO.o al hat hu hn);generalize (AN gs _).1=pid at *;have bu:Hid (i+1<=maxLen):=J (by unfold maxLen;omega);have br:Hid ((i+1)*8<=140737488355328):=J (by omega);have fi:Hid ((de.alloc (.cells #[.int .i64 (pid:Int)] 3)).ownsRow w.heap.size 3 1 (.slice (some ⟨ga,0,none⟩) i c3) i (bp.map din)):=J (Ad jY.o (fun k _ hk=>Below.heap_alloc _ _ k hk));have bC:=J (Bw de 3 [.int .i64 (pid:Int)]);have bA:Hid (w.heap.size<=(de.alloc (.cells #[.int .i64 (pid:Int)] 3)).heap.size):=J (by simp;omega);go_wp2_with (at_builtin;go_must (refine wpList_append_lies _ rfl _ _ 41 rfl w.heap.size 3 i0 _ 1 8 Tryz.underlying41 pL aU hz1 a9 rfl (by decide) (.slice (some ⟨ga,0,none⟩) i c3) i (bp.map din) rfl fi.o ⟨de.heap.size,0,none⟩ 1 1 [.int .i64 (pid:Int)] rfl rfl bC.o (by simp[Value.oneCell']) (by decide) bu.o br.o bA.o _ rfl ?_;intro g6 c6 w6 aT bM bR ey;have dj:Hid (Bv w.heap.size w6 (.slice (some ⟨g6,0,none⟩) (i+1) c6) (i+1) (bp++[pid])):=J (by unfold Bv;rw[List.map_append];exact aT);have xv:=J (fd.o w6 (.slice (some ⟨g6,0,none⟩) (i+1) c6) g6 _ bM bR rfl dj.o);clear aT bM bR ey));go_roundw
    case rel=>exact⟨i+1,hlt,by go_num,xv.o⟩
    case measure=>simp[intOf];omega
   ·have jI:BX bp ⟨(k:Int),(j:Int),(jq:Int),0,[]⟩=⟨(k:Int),((bp.getD j 0:Nat):Int),((bp.getD jq 0:Nat):Int),0,[]⟩:=by
     unfold BX;rw[if_pos (by simp only;omega),if_pos (by simp only;omega)];rfl
    rw[jI]at az fL;rw[CN hk]at gG;simp only at gG;have aK:=J (fun W=>Bx W (k:Int));rw[gG.o]at aK;obtain⟨ga,rfl,fB,oM⟩:=lU.o j hj;obtain⟨gb,cw,_,xq⟩:=lU.o jq tP;obtain rfl:ga=gb:=by injection cw with cw;injection cw
    have tn:=J oM;have Vm:=J xq;have pK:(j:Int)<(i:Int):=by omega
    have o3:(0:Int)<=(j:Int):=by omega
    have YF:(jq:Int)<(i:Int):=by omega
    have YG:(0:Int)<=(jq:Int):=by omega
    clear jI hk hj tP gG oM xq cw;generalize ((bp.getD j 0:Nat):Int)=va at *;generalize ((bp.getD jq 0:Nat):Int)=vb at *;simp only[ndV]at az;simp only at y0 y1 y2 y3 y4;generalize hkk:(k:Int)=kk at *;obtain⟨s,hs⟩:∃s:ByteArray,s=⟨([]:List UInt8).toArray⟩:=⟨_,rfl⟩;have ai:str []= .string s:=by rw[hs];rfl
    rw[ai]at y4 az;clear hs ai hkk;have aQ:=J (Blk.new wr 95 #[.int .i64 kk,.int .i64 (j:Int),.int .i64 (jq:Int),.int .i64 0,.string s]);have ay:=J ((Ext.refl wr).alloc (.cells #[.int .i64 kk,.int .i64 (j:Int),.int .i64 (jq:Int),.int .i64 0,.string s] 95));obtain⟨w7,cU⟩:∃w7,w7=wr.alloc (.cells #[.int .i64 kk,.int .i64 (j:Int),.int .i64 (jq:Int),.int .i64 0,.string s] 95):=⟨_,rfl⟩;rw[<-cU]at aQ ay;have q0:=aQ.o.five;go_upto_region 8 with fail;rw[<-cU];clear cU y0 y1 y2 y3 y4;go_wp2_with fail;refine(aK.o _).mono ?_
    rintro r w8 ⟨rfl,rfl⟩;have v0:=(ay.o.cell fB).trans tn.o;have f1:=aQ.o.frozen 1;have dk:=J (aQ.o.set_ 1 (.int .i64 va));have dz:=J (ay.o.setCell (p:=⟨wr.heap.size,1,none⟩) (Nat.le_refl _) (.int .i64 va));have r0:=Blk.five dk.o;have v1:=(dz.o.cell fB).trans Vm.o;have f2:=dk.o.frozen 2;have sX:=J (Blk.set_ dk.o 2 (.int .i64 vb));have jl:=J (dz.o.setCell (p:=⟨wr.heap.size,2,none⟩) (Nat.le_refl _) (.int .i64 vb));have t0:=Blk.five sX.o;go_wp2_with fail;refine(aK.o _).mono ?_
    rintro r w9 ⟨rfl,rfl⟩;go_wp2_with fail;refine(az.o ((w7.setCell ⟨wr.heap.size,1,none⟩ (.int .i64 va)).setCell ⟨wr.heap.size,2,none⟩ (.int .i64 vb)) (gW.o.keep jl.o)).mono ?_
    rintro r de ⟨nv2,rfl,cg,du⟩;have oJ:=J cg;have oO:=J du;have im:=(KG.of_ext jl.o).trans cg;have uM:wr.heap.size<=de.heap.size:=im.size;have ep:Bv w.heap.size de (.slice (some ⟨ga,0,none⟩) i c3) i bp:=AU eV.o (fun k hk=>im.block k (Ax eV.o hk) (fun e=>by have:=(eV.o.blt k hk).1;omega) (fun e=>by have:=(eV.o.blt k hk).1;omega) (fun e=>Vy.o k e hk));have jY:=J ep;clear im ep cg du q0;have fd:=J (fun w6 at2 g6 o al hat hu hn=>fL.o nv2 ((w7.setCell ⟨wr.heap.size,1,none⟩ (.int .i64 va)).setCell ⟨wr.heap.size,2,none⟩ (.int .i64 vb)) de w6 at2 g6 o jl.o oJ.o oO.o al hat hu hn);generalize (AN gs _).1=pid at *;have bu:Hid (i+1<=maxLen):=J (by unfold maxLen;omega);have br:Hid ((i+1)*8<=140737488355328):=J (by omega);have fi:Hid ((de.alloc (.cells #[.int .i64 (pid:Int)] 3)).ownsRow w.heap.size 3 1 (.slice (some ⟨ga,0,none⟩) i c3) i (bp.map din)):=J (Ad jY.o (fun k _ hk=>Below.heap_alloc _ _ k hk));have bC:=J (Bw de 3 [.int .i64 (pid:Int)]);have bA:Hid (w.heap.size<=(de.alloc (.cells #[.int .i64 (pid:Int)] 3)).heap.size):=J (by simp;omega);go_wp2_with (at_builtin;go_must (refine wpList_append_lies _ rfl _ _ 41 rfl w.heap.size 3 i0 _ 1 8 Tryz.underlying41 pL aU hz1 a9 rfl (by decide) (.slice (some ⟨ga,0,none⟩) i c3) i (bp.map din) rfl fi.o ⟨de.heap.size,0,none⟩ 1 1 [.int .i64 (pid:Int)] rfl rfl bC.o (by simp[Value.oneCell']) (by decide) bu.o br.o bA.o _ rfl ?_;intro g6 c6 w6 aT bM bR ey;have dj:Hid (Bv w.heap.size w6 (.slice (some ⟨g6,0,none⟩) (i+1) c6) (i+1) (bp++[pid])):=J (by unfold Bv;rw[List.map_append];exact aT);have xv:=J (fd.o w6 (.slice (some ⟨g6,0,none⟩) (i+1) c6) g6 _ bM bR rfl dj.o);clear aT bM bR ey));go_roundw
    case rel=>exact⟨i+1,hlt,by go_num,xv.o⟩
    case measure=>simp[intOf];omega
  ·obtain⟨aZ,ju,al,aH,jv⟩:=aJ;obtain⟨more,lA,ob⟩:=K4 e cP.o ns;have hin:i=n:=by omega
   rw[List.take_of_length_le (by rw[AF,<-HN.o];omega),ob]at al aH;simp only at al aH;obtain⟨gi,ci,rfl⟩:=aH.pos (by omega);have ac:=aH.get more.length (by have:=HN.o;omega);rw[DO _ _ rfl]at ac;have qZ:=J ju;have gW:=J al;have i6:=J ac;have nf:=J lA;clear ju al aH jv ob lA ac;go_wp2_with fail;go_ret2;exact⟨aZ,gi,ci,more,by rw[hin];rfl,by rw[HN.o];exact nf.o,i6.o,qZ.o,gW.o⟩
def CV(a0 B g:Nat)(w:World)(L:Value)(l:List Int)(a:Nat):Prop:=BI B g w L l a/\a0<=a
section
variable {a0 B g:Nat} {w w':World} {L:Value} {l:List Int} {a:Nat}
theorem CV.lt(h:CV a0 B g w L l a):g<B:=h.1.lt
theorem CV.blk(h:CV a0 B g w L l a):Blk w g 129 #[L,.int .i64 (a:Int)]:=h.1.blk
theorem CV.arr(h:CV a0 B g w L l a):De w L l:=h.1.arr
theorem CV.pos(h:CV a0 B g w L l a):a<=l.length:=h.1.pos
theorem CV.few(h:CV a0 B g w L l a):l.length<=1000000:=h.1.few
theorem CV.below(h:CV a0 B g w L l a)(hk:Below B w w'):CV a0 B g w' L l a:=⟨h.1.below hk,h.2⟩
theorem G6(l:List Int)(a:Nat):a<=CT l a:=by unfold CT;split<;>omega
end
theorem P9{a0:Nat}(B g:Nat)(w:World)(L:Value)(l:List Int)(a:Nat)(h:CV a0 B g w L l a):Calls Tryz.prog 76 #[.pointer (some ⟨g,0,none⟩)] w fun e w'=>e= .returned (.bool (decide (a<l.length)))/\Dr w w':=ME B g w L l a h.1
theorem Hz{a0:Nat}(B g:Nat)(w:World)(L:Value)(l:List Int)(a:Nat)(n:Int)(h:CV a0 B g w L l a)(hn:1<=n)(hn2:n<=4611686018427387904):Calls Tryz.prog 78 #[.pointer (some ⟨g,0,none⟩),.int .i64 n] w fun e w'=>e= .returned (.int .i64 (Cd l a n))/\CV a0 B g w' L l (CT l a)/\(∀B',KB B' g w w'):=
 (DU B g w L l a n h.1 hn hn2).mono fun _ _ ⟨h1,h2,h3⟩=>⟨h1,⟨h2,Nat.le_trans h.2 (G6 l a)⟩,h3⟩
theorem Jn{a0:Nat}(B g:Nat)(w:World)(L:Value)(l:List Int)(a:Nat)(lo hi:Int)(h:CV a0 B g w L l a)(h1:lo<=hi)(h2: -1000000<=lo)(h3:hi<=1000000):Calls Tryz.prog 77 #[.pointer (some ⟨g,0,none⟩),.int .i64 lo,.int .i64 hi] w fun e w'=>e= .returned (.int .i64 (lo+Cd l a (hi-lo+1)))/\CV a0 B g w' L l (CT l a)/\(∀B',KB B' g w w'):=
 (KI B g w L l a lo hi h.1 h1 h2 h3).mono fun _ _ ⟨p1,p2,p3⟩=>⟨p1,⟨p2,Nat.le_trans h.2 (G6 l a)⟩,p3⟩
theorem Iy{a0:Nat}(B g:Nat)(w:World)(L:Value)(l:List Int)(a:Nat)(h:CV a0 B g w L l a)(hB:B<=w.heap.size):Calls Tryz.prog 137 #[.pointer (some ⟨g,0,none⟩)] w fun e w'=>∃t,e= .returned (str t)/\Bs t=0/\t.length<=5/\CV a0 B g w' L l (CT l a)/\KB w.heap.size g w w':=
 (N2 B g w L l a h.1 hB).mono fun _ _ ⟨t,p0,p1,p2,p3,p4⟩=>⟨t,p0,p1,p2,⟨p3,Nat.le_trans h.2 (G6 l a)⟩,p4⟩
def Lh(a0 B g:Nat)(w:World)(L:Value)(l:List Int)(xs:List Nd)(d:Nat)(e:Ending)(w':World):Prop:=
 ∃(x:Ex) (v':Value) (a':Nat),e= .returned v'/\x.Good/\x.size+1<=2 ^ d/\x.depth<=d/\Ak B w' v' (xs++Ag xs.length x)/\CV a0 B g w' L l a'/\KB B g w w'
theorem PS(a0 d:Nat):∀(B g:Nat) (w:World) (L:Value) (l:List Int) (a:Nat) (v:Value) (xs:List Nd) (closed:Bool) (D:Int),CV a0 B g w L l a->Ak B w v xs->B<=w.heap.size->1<=d->D=(d:Int)->xs.length+2 ^ d<=100000->d<=1000->
  Calls Tryz.prog 75 #[.pointer (some ⟨g,0,none⟩),v,.int .i64 D,.bool closed] w (Lh a0 B g w L l xs d):=by
 induction d using Nat.strongRecOn with
 |_ d IH=>
 intro B g w L l a v xs closed D ht hv hB cx hD ao ky;have q6:=J IH;have HT:=J ht;have HV:=J hv;have HP:=J ao;have pk:=J hD;have WG:1<=D:=by omega
 have lF:=ht.lt;obtain⟨A0,c0,rfl⟩:=hv.shape;have j8:=J (P9 (a0:=a0) B g w L l a ht);have ef:=J (fun W h=>Hz (a0:=a0) B g W L l a 5 h (by decide) (by decide));have sP:=J (fun W h=>Jn (a0:=a0) B g W L l a 1 16 h (by decide) (by decide) (by decide));have cm:=BV (l:=l) (a:=a) (n:=5) (by decide);have uP:=BV (l:=l) (a:=a) (n:=16-1+1) (by decide);have dp:=Jp cx;obtain⟨i0,hi,aU,hz1,a9⟩:=info_parts Dj;have XM:xs.length<=100000:=by omega
 clear IH ht hv ao hD;generalize Cd l a 5=x5 at *;generalize Cd l a (16-1+1)=x16 at *;generalize CT l a=a2 at *;go_enter Tryz.func75,Tryz.ntmps75;go_upto_region 1 with fail
 go_cut [23] from 12 to 23 (fun uc wx=>∃q:Bool,uc= .bool q/\Dr w wx/\(q=false->1<D/\xs.length<=24))
 case first=>
  by_cases hD1:D<=1
  ·have Zl:decide (D<=1)=true:=decide_eq_true hD1;go_wp2_with fail;go_meet;exact⟨true,rfl,Dr.refl w,fun h=>by cases h⟩
  ·have Zl:decide (D<=1)=false:=decide_eq_false hD1;by_cases hal:a<l.length
   ·have iO:decide (a<l.length)=true:=decide_eq_true hal;rw[iO]at j8;clear iO hal;go_wp2_with fail;refine j8.o.mono ?_
    rintro e w1 ⟨rfl,hd⟩;have js:=J hd;clear hd;go_wp2_with fail;go_meet;refine⟨_,rfl,js.o,fun h=>⟨by omega,?_⟩⟩;have h2:=of_decide_eq_false h;omega
   ·have iO:decide (a<l.length)=false:=decide_eq_false hal;rw[iO]at j8;clear iO hal;go_wp2_with fail;refine j8.o.mono ?_
    rintro e w1 ⟨rfl,hd⟩;have js:=J hd;clear hd;go_wp2_with fail;go_meet;exact⟨true,rfl,js.o,fun h=>by cases h⟩
 case rest=>
  obtain⟨q,rfl,hd,hq⟩:=hcut;clear j8;have HD:=J hd;have eD:=J (HT.o.below (hd.belowN B));have qS:=J (HV.o.ext (hd.belowN w.heap.size));have qX:=J ((KB.refl B g w).below (hd.belowN B));have qN:B<=wc.heap.size:=by rw[hd.heap];exact hB
  clear hd hB;generalize wc=w1 at *;cases q
  ·obtain⟨Zk,rx⟩:=hq rfl;obtain⟨m,rfl⟩:∃m,d=m+1:=⟨d-1,by omega⟩;have kO:1<=m:=by have:=pk.o;omega
   have rJ:2 ^ (m+1)=2*2 ^ m:=by rw[Nat.pow_succ];omega
   have nH:=Jp kO;have ao:=HP.o;have aL:IntKind.i64.wrap (D-1)=D-1:=by have:=pk.o;exact IntWalk.i64_in _ (by omega)
   obtain⟨K,hK⟩:∃K:Nat,(K:Int)=1+x16:=⟨(1+x16).toNat,by omega⟩;rw[<-hK]at sP;have WF:1<=K:=by omega
   have Zj:K<=16:=by omega
   have aK:=J (fun W=>Bx W (K:Int));clear hq hK uP ef cm;have key:(Ap (K:Int)=0/\K<=4)\/(Ap (K:Int)=1/\(K=5\/(10<=K/\K<=16)))\/(Ap (K:Int)=2/\(6<=K/\K<=9)):=by
    unfold Ap
    repeat' split
    all_goals omega
   rcases key with ⟨aG,_⟩|⟨aG,xT⟩|⟨aG,xT⟩
   ·rw[aG]at aK;clear aG rx;have HI:=J (fun W h1 h2 h3=>q6.o 1 (by omega) B g W L l a2 (.slice A0 xs.length c0) xs closed 1 h1 h2 h3 (by decide) rfl (by omega) (by decide));go_wp2_with fail;refine(sP.o _ eD.o).mono ?_
    rintro e w2 ⟨rfl,gM,hk2⟩;have eM:=J gM;have iE:=J (qS.o.kbx lF hk2);have gU:=J (qX.o.trans (hk2 B));have gQ:B<=w2.heap.size:=Nat.le_trans qN (hk2 B).size;clear gM hk2;go_wp2_with fail;refine(aK.o _).mono ?_
    rintro e w3 ⟨rfl,rfl⟩;go_wp2_with fail;refine(HI.o _ eM.o iE.o gQ).mono ?_
    rintro e w4 ak;obtain⟨x,v',a',rfl,hg,hs,jh,ag,mQ,hk⟩:=ak;have HE:=J (And.intro hg (And.intro hs (And.intro jh (And.intro ag (And.intro mQ hk)))));clear hg hs jh ag mQ hk;go_wp2_with fail;go_ret;obtain⟨hg,hs,jh,ag,mQ,hk⟩:=HE.o;exact⟨x,v',a',rfl,hg,Nat.le_trans hs dp,by omega,ag,mQ,gU.o.trans hk⟩
   ·rw[aG]at aK;clear aG rx;by_cases hK10:K=10
    ·subst hK10;rw[show ((10:Nat):Int)=10 from rfl]at aK sP;have iu:=J (fun W h=>Jn (a0:=a0) B g W L l a2 (-3) 4 h (by decide) (by decide) (by decide));have cK:=BV (l:=l) (a:=a2) (n:=4- -3+1) (by decide);have vd: -3≤-3+Cd l a2 (4- -3+1)∧-3+Cd l a2 (4- -3+1)<=4:=by omega
     generalize-3+Cd l a2 (4- -3+1)=nn at *;generalize CT l a2=a3 at *;clear cK;go_wp2_with fail;refine(sP.o _ eD.o).mono ?_
     rintro e w2 ⟨rfl,gM,hk2⟩;have eM:=J gM;have iE:=J (qS.o.kbx lF hk2);have gU:=J (qX.o.trans (hk2 B));have gQ:B<=w2.heap.size:=Nat.le_trans qN (hk2 B).size;clear gM hk2;go_wp2_with fail;refine(aK.o _).mono ?_
     rintro e w3 ⟨rfl,rfl⟩;go_wp2_with fail;refine(iu.o _ eM.o).mono ?_
     rintro e w6 ⟨rfl,uG,bK⟩;have qU:=J uG;have ZP:=J (iE.o.kbx lF bK);have bT:=J (gU.o.trans (bK B));have tX:B<=w6.heap.size:=Nat.le_trans gQ (bK B).size;clear uG bK;go_wp2_with fail;refine(q6.o m (by omega) B g _ L l a3 (.slice A0 xs.length c0) (xs) closed (D-1) qU.o ZP.o tX kO (by have:=pk.o;omega) (by omega) (by omega)).mono ?_
     rintro e w7 ak;obtain⟨x,v7,a7,rfl,iK,uL,jP,aI,jB,il⟩:=ak;obtain⟨A7,c7,n7,rfl,gO⟩:=aI.shape3;have mU:n7=xs.length+x.size:=by rw[gO,List.length_append,AF]
     have xV:Hid (w7.ownsRow B 95 5 (.slice A7 n7 c7) n7 (Bm (xs++Ag xs.length x))):=J (by
      have h:=aI;unfold Ak at h;rw[<-gO]at h;exact h)
     have mG:=J mU;have vP:n7<=100000:=by omega
     have vO:1<=n7:=by have:=x.size_pos;omega
     have eP:=J aI;have fN:=J gO;have qT:=J jB;have pj:=J (And.intro iK jP);have iR:=J (bT.o.trans il);have tW:B<=w7.heap.size:=Nat.le_trans tX il.size;clear iK jP aI jB il gO mU;have cU:IntKind.i64.wrap ((n7:Int)-1)=(n7:Int)-1:=IntWalk.i64_in _ (by omega);have cZ:Hid ((w7.alloc (.cells #[.int .i64 10,.int .i64 ((n7:Int)-1),.int .i64 0,.int .i64 nn,.string ⟨#[]⟩] 95)).ownsRow B 95 5 _ n7 (Bm (xs++Ag xs.length x))):=J (Ad xV.o (fun k _ hk=>Below.heap_alloc _ _ k hk));have bC:=J (Bw w7 95 [.int .i64 10,.int .i64 ((n7:Int)-1),.int .i64 0,.int .i64 nn,.string ⟨#[]⟩]);have bu:Hid (n7+1<=maxLen):=J (by unfold maxLen;omega);have br:Hid ((n7+1)*48<=140737488355328):=J (by omega);have bA:Hid (B<=(w7.alloc (.cells #[.int .i64 10,.int .i64 ((n7:Int)-1),.int .i64 0,.int .i64 nn,.string ⟨#[]⟩] 95)).heap.size):=J (by simp;omega);go_wp2_with (at_builtin;go_must (refine wpList_append_own _ rfl _ _ 32 rfl B 95 i0 _ 5 48 Tryz.underlying32 hi aU hz1 a9 rfl (by decide) _ n7 (Bm (xs++Ag xs.length x)) rfl cZ.o ⟨w7.heap.size,0,none⟩ 1 1 [.int .i64 10,.int .i64 ((n7:Int)-1),.int .i64 0,.int .i64 nn,.string ⟨#[]⟩] rfl rfl bC.o (by simp[Value.oneCell']) bu.o br.o bA.o ?_;intro v' w' ag al _;have dV:=J (DV (nd:=⟨10,(n7:Int)-1,0,nn,[]⟩) fN.o _ eP.o tW ag al);obtain⟨A',c',rfl⟩:=Am ag;clear ag al));go_wp2_with fail;go_ret;have mU:=mG.o;have uH:=x.size_pos;refine⟨.un 10 nn x,_,_,rfl,⟨xT,fun h=>absurd rfl h,by omega,by omega,pj.o.1⟩,by rw[Ex.size];omega,by rw[Ex.depth];have:=pj.o.2;omega,?_,qT.o.below dV.o.2,iR.o.below dV.o.2⟩;rw[Ag,<-List.append_assoc,show ((xs.length+x.size-1:Nat):Int)=(n7:Int)-1 by omega];exact dV.o.1
    ·have hKe:((K:Int) == 10)=false:=by rw[beq_eq_false_iff_ne];omega
     go_wp2_with fail;refine(sP.o _ eD.o).mono ?_
     rintro e w2 ⟨rfl,gM,hk2⟩;have eM:=J gM;have iE:=J (qS.o.kbx lF hk2);have gU:=J (qX.o.trans (hk2 B));have gQ:B<=w2.heap.size:=Nat.le_trans qN (hk2 B).size;clear gM hk2;go_wp2_with fail;refine(aK.o _).mono ?_
     rintro e w3 ⟨rfl,rfl⟩;have bT:=J gU.o;have tX:=gQ;go_wp2_with fail;refine(q6.o m (by omega) B g _ L l a2 (.slice A0 xs.length c0) (xs) closed (D-1) eM.o iE.o gQ kO (by have:=pk.o;omega) (by omega) (by omega)).mono ?_
     rintro e w7 ak;obtain⟨x,v7,a7,rfl,iK,uL,jP,aI,jB,il⟩:=ak;obtain⟨A7,c7,n7,rfl,gO⟩:=aI.shape3;have mU:n7=xs.length+x.size:=by rw[gO,List.length_append,AF]
     have xV:Hid (w7.ownsRow B 95 5 (.slice A7 n7 c7) n7 (Bm (xs++Ag xs.length x))):=J (by
      have h:=aI;unfold Ak at h;rw[<-gO]at h;exact h)
     have mG:=J mU;have vP:n7<=100000:=by omega
     have vO:1<=n7:=by have:=x.size_pos;omega
     have eP:=J aI;have fN:=J gO;have qT:=J jB;have pj:=J (And.intro iK jP);have iR:=J (bT.o.trans il);have tW:B<=w7.heap.size:=Nat.le_trans tX il.size;clear iK jP aI jB il gO mU;have cU:IntKind.i64.wrap ((n7:Int)-1)=(n7:Int)-1:=IntWalk.i64_in _ (by omega);have cZ:Hid ((w7.alloc (.cells #[.int .i64 (K:Int),.int .i64 ((n7:Int)-1),.int .i64 0,.int .i64 0,.string ⟨#[]⟩] 95)).ownsRow B 95 5 _ n7 (Bm (xs++Ag xs.length x))):=J (Ad xV.o (fun k _ hk=>Below.heap_alloc _ _ k hk));have bC:=J (Bw w7 95 [.int .i64 (K:Int),.int .i64 ((n7:Int)-1),.int .i64 0,.int .i64 0,.string ⟨#[]⟩]);have bu:Hid (n7+1<=maxLen):=J (by unfold maxLen;omega);have br:Hid ((n7+1)*48<=140737488355328):=J (by omega);have bA:Hid (B<=(w7.alloc (.cells #[.int .i64 (K:Int),.int .i64 ((n7:Int)-1),.int .i64 0,.int .i64 0,.string ⟨#[]⟩] 95)).heap.size):=J (by simp;omega);go_wp2_with (at_builtin;go_must (refine wpList_append_own _ rfl _ _ 32 rfl B 95 i0 _ 5 48 Tryz.underlying32 hi aU hz1 a9 rfl (by decide) _ n7 (Bm (xs++Ag xs.length x)) rfl cZ.o ⟨w7.heap.size,0,none⟩ 1 1 [.int .i64 (K:Int),.int .i64 ((n7:Int)-1),.int .i64 0,.int .i64 0,.string ⟨#[]⟩] rfl rfl bC.o (by simp[Value.oneCell']) bu.o br.o bA.o ?_;intro v' w' ag al _;have dV:=J (DV (nd:=⟨(K:Int),(n7:Int)-1,0,0,[]⟩) fN.o _ eP.o tW ag al);obtain⟨A',c',rfl⟩:=Am ag;clear ag al));go_wp2_with fail;go_ret;have mU:=mG.o;have uH:=x.size_pos;refine⟨.un K 0 x,_,_,rfl,⟨xT,fun _=>rfl,by omega,by omega,pj.o.1⟩,by rw[Ex.size];omega,by rw[Ex.depth];have:=pj.o.2;omega,?_,qT.o.below dV.o.2,iR.o.below dV.o.2⟩;rw[Ag,<-List.append_assoc,show ((xs.length+x.size-1:Nat):Int)=(n7:Int)-1 by omega];exact dV.o.1
   ·rw[aG]at aK;clear aG rx;go_wp2_with fail;refine(sP.o _ eD.o).mono ?_
    rintro e w2 ⟨rfl,gM,hk2⟩;have eM:=J gM;have iE:=J (qS.o.kbx lF hk2);have gU:=J (qX.o.trans (hk2 B));have gQ:B<=w2.heap.size:=Nat.le_trans qN (hk2 B).size;clear gM hk2;go_wp2_with fail;refine(aK.o _).mono ?_
    rintro e w3 ⟨rfl,rfl⟩;have bT:=J gU.o;have tX:=gQ;go_wp2_with fail;refine(q6.o m (by omega) B g _ L l a2 (.slice A0 xs.length c0) (xs) closed (D-1) eM.o iE.o gQ kO (by have:=pk.o;omega) (by omega) (by omega)).mono ?_
    rintro e w7 ak;obtain⟨x,v7,a7,rfl,iK,uL,jP,aI,jB,il⟩:=ak;obtain⟨A7,c7,n7,rfl,gO⟩:=aI.shape3;have mU:n7=xs.length+x.size:=by rw[gO,List.length_append,AF]
    have xV:Hid (w7.ownsRow B 95 5 (.slice A7 n7 c7) n7 (Bm (xs++Ag xs.length x))):=J (by
     have h:=aI;unfold Ak at h;rw[<-gO]at h;exact h)
    have mG:=J mU;have vP:n7<=100000:=by omega
    have vO:1<=n7:=by have:=x.size_pos;omega
    have eP:=J aI;have fN:=J gO;have qT:=J jB;have pj:=J (And.intro iK jP);have iR:=J (bT.o.trans il);have tW:B<=w7.heap.size:=Nat.le_trans tX il.size;clear iK jP aI jB il gO mU;have cU:IntKind.i64.wrap ((n7:Int)-1)=(n7:Int)-1:=IntWalk.i64_in _ (by omega);go_wp2_with fail;refine(q6.o m (by omega) B g _ L l a7 (.slice A7 n7 c7) (xs++Ag xs.length x) closed (D-1) qT.o eP.o tW kO (by have:=pk.o;omega) (by rw[<-fN.o];have:=mG.o;omega) (by omega)).mono ?_
    rintro e w8 ak;obtain⟨y,v8,a8,rfl,mS,fR,vD,lv,uD,bJ⟩:=ak;have Ut:=mG.o;obtain⟨A8,c8,n8,rfl,vd⟩:=lv.shape3;have Us:n8=n7+y.size:=by rw[vd,List.length_append,AF,<-fN.o]
    have ZN:Hid (w8.ownsRow B 95 5 (.slice A8 n8 c8) n8 (Bm ((xs++Ag xs.length x)++Ag (xs++Ag xs.length x).length y))):=J (by
     have h:=lv;unfold Ak at h;rw[<-vd]at h;exact h)
    have lS:=J Us;have Y5:n8<=100000:=by omega
    have Y4:1<=n8:=by have:=y.size_pos;omega
    have my:=J lv;have jn:=J vd;have ZU:=J uD;have yh:=J (And.intro mS vD);have eX:=J (iR.o.trans bJ);have Zn:B<=w8.heap.size:=Nat.le_trans tW bJ.size;clear mS vD lv uD bJ vd Us Ut;have cN:IntKind.i64.wrap ((n8:Int)-1)=(n8:Int)-1:=IntWalk.i64_in _ (by omega);have cZ:Hid ((w8.alloc (.cells #[.int .i64 (K:Int),.int .i64 ((n7:Int)-1),.int .i64 ((n8:Int)-1),.int .i64 0,.string ⟨#[]⟩] 95)).ownsRow B 95 5 _ n8 (Bm ((xs++Ag xs.length x)++Ag (xs++Ag xs.length x).length y))):=J (Ad ZN.o (fun k _ hk=>Below.heap_alloc _ _ k hk));have bC:=J (Bw w8 95 [.int .i64 (K:Int),.int .i64 ((n7:Int)-1),.int .i64 ((n8:Int)-1),.int .i64 0,.string ⟨#[]⟩]);have bu:Hid (n8+1<=maxLen):=J (by unfold maxLen;omega);have br:Hid ((n8+1)*48<=140737488355328):=J (by omega);have bA:Hid (B<=(w8.alloc (.cells #[.int .i64 (K:Int),.int .i64 ((n7:Int)-1),.int .i64 ((n8:Int)-1),.int .i64 0,.string ⟨#[]⟩] 95)).heap.size):=J (by simp;omega);go_wp2_with (at_builtin;go_must (refine wpList_append_own _ rfl _ _ 32 rfl B 95 i0 _ 5 48 Tryz.underlying32 hi aU hz1 a9 rfl (by decide) _ n8 (Bm ((xs++Ag xs.length x)++Ag (xs++Ag xs.length x).length y)) rfl cZ.o ⟨w8.heap.size,0,none⟩ 1 1 [.int .i64 (K:Int),.int .i64 ((n7:Int)-1),.int .i64 ((n8:Int)-1),.int .i64 0,.string ⟨#[]⟩] rfl rfl bC.o (by simp[Value.oneCell']) bu.o br.o bA.o ?_;intro v' w' ag al _;have dV:=J (DV (nd:=⟨(K:Int),(n7:Int)-1,(n8:Int)-1,0,[]⟩) jn.o _ my.o Zn ag al);obtain⟨A',c',rfl⟩:=Am ag;clear ag al));go_wp2_with fail;go_ret;have mU:=mG.o;have Us:=lS.o;have uH:=x.size_pos;have X3:=y.size_pos;refine⟨.bin K x y,_,_,rfl,⟨xT,pj.o.1,yh.o.1⟩,by rw[Ex.size];omega,by rw[Ex.depth];have:=pj.o.2;have:=yh.o.2;omega,?_,ZU.o.below dV.o.2,eX.o.below dV.o.2⟩;rw[Ag,show ((xs.length+x.size-1:Nat):Int)=(n7:Int)-1 by omega,show ((xs.length+x.size+y.size-1:Nat):Int)=(n8:Int)-1 by omega];have h9:=dV.o.1;rw[show (xs++Ag xs.length x).length=xs.length+x.size by rw[<-fN.o];exact mU]at h9;simp only[List.append_assoc]at h9 ⊢;exact h9
  ·clear hq q6 sP uP;obtain rfl|WK|Zp:x5=0\/(x5=1\/x5=2)\/(x5=3\/x5=4):=by omega
   ·go_wp2_with fail;refine(ef.o _ eD.o).mono ?_
    rintro e w2 ⟨rfl,gM,hk2⟩;have eM:=J gM;have iE:=J (qS.o.kbx lF hk2);have gU:=J (qX.o.trans (hk2 B));have gQ:B<=w2.heap.size:=Nat.le_trans qN (hk2 B).size;clear gM hk2;have kG:=J (fun W h=>Hz (a0:=a0) B g W L l a2 2 h (by decide) (by decide));have hr2:=BV (l:=l) (a:=a2) (n:=2) (by decide);generalize Cd l a2 2=y at *;generalize CT l a2=a3 at *;obtain rfl|rfl:y=0\/y=1:=by omega
    ·go_wp2_with fail;refine(kG.o _ eM.o).mono ?_
     rintro e w3 ⟨rfl,lu,dG⟩;have kW:=J lu;have lK:=J (iE.o.kbx lF dG);have bE:=J (gU.o.trans (dG B));have pW:B<=w3.heap.size:=Nat.le_trans gQ (dG B).size;clear lu dG;have cZ:Hid ((w3.alloc (.cells #[.int .i64 3,.int .i64 0,.int .i64 0,.int .i64 0,.string ⟨#[]⟩] 95)).ownsRow B 95 5 _ xs.length (Bm (xs))):=J (Ad lK.o (fun k _ hk=>Below.heap_alloc _ _ k hk));have bC:=J (Bw w3 95 [.int .i64 3,.int .i64 0,.int .i64 0,.int .i64 0,.string ⟨#[]⟩]);have bu:Hid (xs.length+1<=maxLen):=J (by unfold maxLen;omega);have br:Hid ((xs.length+1)*48<=140737488355328):=J (by omega);have bA:Hid (B<=(w3.alloc (.cells #[.int .i64 3,.int .i64 0,.int .i64 0,.int .i64 0,.string ⟨#[]⟩] 95)).heap.size):=J (by simp;omega);go_wp2_with (at_builtin;go_must (refine wpList_append_own _ rfl _ _ 32 rfl B 95 i0 _ 5 48 Tryz.underlying32 hi aU hz1 a9 rfl (by decide) _ xs.length (Bm (xs)) rfl cZ.o ⟨w3.heap.size,0,none⟩ 1 1 [.int .i64 3,.int .i64 0,.int .i64 0,.int .i64 0,.string ⟨#[]⟩] rfl rfl bC.o (by simp[Value.oneCell']) bu.o br.o bA.o ?_;intro v' w' ag al _;have dV:=J (DV (nd:=⟨3,0,0,0,[]⟩) rfl _ lK.o pW ag al);obtain⟨A',c',rfl⟩:=Am ag;clear ag al));go_wp2_with fail;go_ret;exact⟨.leaf 3 [],_,_,rfl,.inr (.inr ⟨by omega,rfl⟩),by rw[Ex.size];omega,cx,dV.o.1,kW.o.below dV.o.2,bE.o.below dV.o.2⟩
    ·go_wp2_with fail;refine(kG.o _ eM.o).mono ?_
     rintro e w3 ⟨rfl,lu,dG⟩;have kW:=J lu;have lK:=J (iE.o.kbx lF dG);have bE:=J (gU.o.trans (dG B));have pW:B<=w3.heap.size:=Nat.le_trans gQ (dG B).size;clear lu dG;have cZ:Hid ((w3.alloc (.cells #[.int .i64 4,.int .i64 0,.int .i64 0,.int .i64 0,.string ⟨#[]⟩] 95)).ownsRow B 95 5 _ xs.length (Bm (xs))):=J (Ad lK.o (fun k _ hk=>Below.heap_alloc _ _ k hk));have bC:=J (Bw w3 95 [.int .i64 4,.int .i64 0,.int .i64 0,.int .i64 0,.string ⟨#[]⟩]);have bu:Hid (xs.length+1<=maxLen):=J (by unfold maxLen;omega);have br:Hid ((xs.length+1)*48<=140737488355328):=J (by omega);have bA:Hid (B<=(w3.alloc (.cells #[.int .i64 4,.int .i64 0,.int .i64 0,.int .i64 0,.string ⟨#[]⟩] 95)).heap.size):=J (by simp;omega);go_wp2_with (at_builtin;go_must (refine wpList_append_own _ rfl _ _ 32 rfl B 95 i0 _ 5 48 Tryz.underlying32 hi aU hz1 a9 rfl (by decide) _ xs.length (Bm (xs)) rfl cZ.o ⟨w3.heap.size,0,none⟩ 1 1 [.int .i64 4,.int .i64 0,.int .i64 0,.int .i64 0,.string ⟨#[]⟩] rfl rfl bC.o (by simp[Value.oneCell']) bu.o br.o bA.o ?_;intro v' w' ag al _;have dV:=J (DV (nd:=⟨4,0,0,0,[]⟩) rfl _ lK.o pW ag al);obtain⟨A',c',rfl⟩:=Am ag;clear ag al));go_wp2_with fail;go_ret;exact⟨.leaf 4 [],_,_,rfl,.inr (.inr ⟨by omega,rfl⟩),by rw[Ex.size];omega,cx,dV.o.1,kW.o.below dV.o.2,bE.o.below dV.o.2⟩
   ·cases closed
    ·obtain rfl|rfl:=WK
     all_goals
      go_wp2_with fail;refine(ef.o _ eD.o).mono ?_
      rintro e w2 ⟨rfl,gM,hk2⟩;have eM:=J gM;have iE:=J (qS.o.kbx lF hk2);have gU:=J (qX.o.trans (hk2 B));have gQ:B<=w2.heap.size:=Nat.le_trans qN (hk2 B).size;clear gM hk2;have kG:=J (fun W h=>Hz (a0:=a0) B g W L l a2 5 h (by decide) (by decide));have hr2:=BV (l:=l) (a:=a2) (n:=5) (by decide);obtain⟨t,i9,gg,hgt,gj⟩:=P3 hr2.1 hr2.2;obtain⟨hy0,qt⟩:=hr2;have eQ:=J hgt;have UH:=J gg;generalize Cd l a2 5=y at *;generalize CT l a2=a3 at *;clear hgt gg;go_wp2_with fail;refine(HH _).mono ?_
      rintro e w4 ⟨rfl,pd,aR⟩;have eJ:=J pd;have aE:=J aR;clear pd aR;go_wp2_with fail;refine(HH _).mono ?_
      rintro e w5 ⟨rfl,_,hx5⟩;have dP:=J (eJ.o.ext hx5);have bg:=J (aE.o.trans hx5);clear hx5;go_wp2_with fail;refine(kG.o _ (eM.o.below (Below.mono bg.o gQ))).mono ?_
      rintro e w3 ⟨rfl,lu,dG⟩;have fH:=eM.o.blk.lt;have xM:=((dG (w2.heap.size+1)).blk dP.o (by omega) (by omega)).cell y.toNat;rw[List.getElem?_toArray,List.getElem?_map,List.getElem?_eq_getElem i9]at xM;rw[UH.o]at xM;have YD:w3.cell? ⟨w2.heap.size,y.toNat,none⟩=some (str t):=xM;have kW:=J lu;have lK:=J ((iE.o.ext bg.o).kbx lF dG);have bE:=J ((gU.o.ext bg.o gQ).trans (dG B));have pW:B<=w3.heap.size:=Nat.le_trans gQ (Nat.le_trans bg.o.size (dG B).size);clear lu dG xM fH;have cZ:Hid ((w3.alloc (.cells #[.int .i64 2,.int .i64 0,.int .i64 0,.int .i64 0,str t] 95)).ownsRow B 95 5 _ xs.length (Bm (xs))):=J (Ad lK.o (fun k _ hk=>Below.heap_alloc _ _ k hk));have bC:=J (Bw w3 95 [.int .i64 2,.int .i64 0,.int .i64 0,.int .i64 0,str t]);have bu:Hid (xs.length+1<=maxLen):=J (by unfold maxLen;omega);have br:Hid ((xs.length+1)*48<=140737488355328):=J (by omega);have bA:Hid (B<=(w3.alloc (.cells #[.int .i64 2,.int .i64 0,.int .i64 0,.int .i64 0,str t] 95)).heap.size):=J (by simp;omega);go_wp2_with (at_builtin;go_must (refine wpList_append_own _ rfl _ _ 32 rfl B 95 i0 _ 5 48 Tryz.underlying32 hi aU hz1 a9 rfl (by decide) _ xs.length (Bm (xs)) rfl cZ.o ⟨w3.heap.size,0,none⟩ 1 1 [.int .i64 2,.int .i64 0,.int .i64 0,.int .i64 0,str t] rfl rfl bC.o (by simp[Value.oneCell',str]) bu.o br.o bA.o ?_;intro v' w' ag al _;have dV:=J (DV (nd:=⟨2,0,0,0,t⟩) rfl _ lK.o pW ag al);obtain⟨A',c',rfl⟩:=Am ag;clear ag al));go_wp2_with fail;go_ret;exact⟨.leaf 2 t,_,_,rfl,.inr (.inl ⟨rfl,eQ.o⟩),by rw[Ex.size];omega,cx,dV.o.1,kW.o.below dV.o.2,bE.o.below dV.o.2⟩
    ·obtain rfl|rfl:=WK
     all_goals
      go_wp2_with fail;refine(ef.o _ eD.o).mono ?_
      rintro e w2 ⟨rfl,gM,hk2⟩;have eM:=J gM;have iE:=J (qS.o.kbx lF hk2);have gU:=J (qX.o.trans (hk2 B));have gQ:B<=w2.heap.size:=Nat.le_trans qN (hk2 B).size;clear gM hk2;go_wp2_with fail;refine(Iy (a0:=a0) B g _ L l a2 eM.o gQ).mono ?_
      rintro e w3 ⟨t,rfl,sg,gj,lu,dG⟩;have eQ:=J (And.intro sg gj);clear sg gj;have kW:=J lu;have lK:=J (iE.o.kbs lF dG);have bE:=J (gU.o.trans (dG.mono gQ));have pW:B<=w3.heap.size:=Nat.le_trans gQ dG.size;clear lu dG;have cZ:Hid ((w3.alloc (.cells #[.int .i64 1,.int .i64 0,.int .i64 0,.int .i64 0,str t] 95)).ownsRow B 95 5 _ xs.length (Bm (xs))):=J (Ad lK.o (fun k _ hk=>Below.heap_alloc _ _ k hk));have bC:=J (Bw w3 95 [.int .i64 1,.int .i64 0,.int .i64 0,.int .i64 0,str t]);have bu:Hid (xs.length+1<=maxLen):=J (by unfold maxLen;omega);have br:Hid ((xs.length+1)*48<=140737488355328):=J (by omega);have bA:Hid (B<=(w3.alloc (.cells #[.int .i64 1,.int .i64 0,.int .i64 0,.int .i64 0,str t] 95)).heap.size):=J (by simp;omega);go_wp2_with (at_builtin;go_must (refine wpList_append_own _ rfl _ _ 32 rfl B 95 i0 _ 5 48 Tryz.underlying32 hi aU hz1 a9 rfl (by decide) _ xs.length (Bm (xs)) rfl cZ.o ⟨w3.heap.size,0,none⟩ 1 1 [.int .i64 1,.int .i64 0,.int .i64 0,.int .i64 0,str t] rfl rfl bC.o (by simp[Value.oneCell',str]) bu.o br.o bA.o ?_;intro v' w' ag al _;have dV:=J (DV (nd:=⟨1,0,0,0,t⟩) rfl _ lK.o pW ag al);obtain⟨A',c',rfl⟩:=Am ag;clear ag al));go_wp2_with fail;go_ret;exact⟨.leaf 1 t,_,_,rfl,.inl ⟨rfl,eQ.o.1,Nat.le_trans eQ.o.2 (by decide)⟩,by rw[Ex.size];omega,cx,dV.o.1,kW.o.below dV.o.2,bE.o.below dV.o.2⟩
   ·obtain rfl|rfl:=Zp
    all_goals
     go_wp2_with fail;refine(ef.o _ eD.o).mono ?_
     rintro e w2 ⟨rfl,gM,hk2⟩;have eM:=J gM;have iE:=J (qS.o.kbx lF hk2);have gU:=J (qX.o.trans (hk2 B));have gQ:B<=w2.heap.size:=Nat.le_trans qN (hk2 B).size;clear gM hk2;go_wp2_with fail;refine(Iy (a0:=a0) B g _ L l a2 eM.o gQ).mono ?_
     rintro e w3 ⟨t,rfl,sg,gj,lu,dG⟩;have eQ:=J (And.intro sg gj);clear sg gj;have kW:=J lu;have lK:=J (iE.o.kbs lF dG);have bE:=J (gU.o.trans (dG.mono gQ));have pW:B<=w3.heap.size:=Nat.le_trans gQ dG.size;clear lu dG;have cZ:Hid ((w3.alloc (.cells #[.int .i64 1,.int .i64 0,.int .i64 0,.int .i64 0,str t] 95)).ownsRow B 95 5 _ xs.length (Bm (xs))):=J (Ad lK.o (fun k _ hk=>Below.heap_alloc _ _ k hk));have bC:=J (Bw w3 95 [.int .i64 1,.int .i64 0,.int .i64 0,.int .i64 0,str t]);have bu:Hid (xs.length+1<=maxLen):=J (by unfold maxLen;omega);have br:Hid ((xs.length+1)*48<=140737488355328):=J (by omega);have bA:Hid (B<=(w3.alloc (.cells #[.int .i64 1,.int .i64 0,.int .i64 0,.int .i64 0,str t] 95)).heap.size):=J (by simp;omega);go_wp2_with (at_builtin;go_must (refine wpList_append_own _ rfl _ _ 32 rfl B 95 i0 _ 5 48 Tryz.underlying32 hi aU hz1 a9 rfl (by decide) _ xs.length (Bm (xs)) rfl cZ.o ⟨w3.heap.size,0,none⟩ 1 1 [.int .i64 1,.int .i64 0,.int .i64 0,.int .i64 0,str t] rfl rfl bC.o (by simp[Value.oneCell',str]) bu.o br.o bA.o ?_;intro v' w' ag al _;have dV:=J (DV (nd:=⟨1,0,0,0,t⟩) rfl _ lK.o pW ag al);obtain⟨A',c',rfl⟩:=Am ag;clear ag al));go_wp2_with fail;go_ret;exact⟨.leaf 1 t,_,_,rfl,.inl ⟨rfl,eQ.o.1,Nat.le_trans eQ.o.2 (by decide)⟩,by rw[Ex.size];omega,cx,dV.o.1,kW.o.below dV.o.2,bE.o.below dV.o.2⟩
theorem Qt(d g:Nat)(w:World)(L:Value)(l:List Int)(a:Nat)(closed:Bool)(h:BI w.heap.size g w L l a)(hd:1<=d)(ba:d<=16):Calls Tryz.prog 22 #[.pointer (some ⟨g,0,none⟩),.int .i64 (d:Int),.bool closed] w (Lh a w.heap.size g w L l [] d):=by
 have hp:2 ^ d<=2 ^ 16:=Nat.pow_le_pow_right (by omega) ba;have HP:=J (PS a d w.heap.size g w L l a (.slice none 0 0) [] closed (d:Int) ⟨h,Nat.le_refl a⟩ (Ak.nil _ w) (Nat.le_refl _) hd rfl (by simp;omega) (by omega));clear h hp;go_enter Tryz.func22,Tryz.ntmps22;go_wp2_with fail;refine HP.o.mono ?_
 rintro e w2 ⟨x,v',a',rfl,h1,h2,h3,h4,h5,h6⟩;have HE:=J (And.intro h1 (And.intro h2 (And.intro h3 (And.intro h4 (And.intro h5 h6)))));clear h1 h2 h3 h4 h5 h6;go_wp2_with fail;go_ret;obtain⟨h1,h2,h3,h4,h5,h6⟩:=HE.o;exact⟨x,v',a',rfl,h1,h2,h3,h4,h5,h6⟩
def Sh(B g:Nat)(ns:List Nd)(rv:Value)(e:Ex)(w:World)(r:Ending)(w':World):Prop:=
 ∃rv',r= .returned (.tuple #[.int .i64 ((Ai ns e).1:Int),.int .i64 0])/\KG g g rv rv' w w'/\GrR B g w' (Ai ns e).2 rv'
theorem Ri(B g:Nat)(w:World)(ns:List Nd)(rv v:Value)(e:Ex)(h:GrR B g w ns rv)(hv:Cg g g rv w v (Ag 0 e))(eT:e.Good)(cQ:e.size<=200)(jh:e.depth<=40)(a5:ns.length+e.size<=4096):
  Calls Tryz.prog 25 #[.pointer (some ⟨g,0,none⟩),v] w (Sh B g ns rv e w):=by
 have xl:=J (Rf B g w ns rv v e h hv eT cQ jh a5);obtain⟨A1,c1,rfl,_⟩:=hv;clear h eT jh a5;go_enter Tryz.func25,Tryz.ntmps25;go_wp2_with fail;refine xl.o.mono ?_
 rintro r w1 ⟨rv',gi,ci,more,rfl,hm,hc,hk,hg⟩;rw[<-hm]at cQ ⊢;have HK:=J hk;have HG:=J hg;clear hm hk hg;obtain⟨kz,jK⟩:∃kz,kz=more.length:=⟨_,rfl⟩;rw[<-jK]at cQ hc ⊢;clear jK;have hz1:IntKind.i64.wrap (((kz+1:Nat):Int)-1)=(kz:Int):=by rw[IntWalk.i64_in _ (by omega)];omega
 have a9:IntKind.i64.wrap ((kz:Int)+1-1)=(kz:Int):=by rw[IntWalk.i64_in _ (by omega)];omega
 have XF:IntKind.i64.wrap (kz:Int)=(kz:Int):=IntWalk.i64_in _ (by omega);have XE:(kz:Int)<(kz:Int)+1:=by omega
 have XD:(0:Int)<=(kz:Int):=by omega
 generalize hpid:(Ai ns e).1=pid at *;have sS:=J hpid;clear hpid;go_wp2_with fail;go_ret2;exact⟨rv',by rw[sS.o];rfl,HK.o,HG.o⟩
def QZ(w:World)(g:Nat):Nat:=match w.cell? ⟨g,1,none⟩ with
 |some (.int _ n)=>n.toNat
 |_=>0
theorem BI.place{B g:Nat}{w:World}{L:Value}{l:List Int}{a:Nat}(h:BI B g w L l a):QZ w g=a:=by
 unfold QZ;rw[h.blk.cell 1];simp
theorem GrR.kb{B g tg:Nat}{w w':World}{ns:List Nd}{rv:Value}(h:GrR B g w ns rv)(ht:tg<B)(hk:KB w.heap.size tg w w'):GrR B g w' ns rv:=
 ⟨(hk.block g h.lt (by have:=h.lo;omega)).trans h.blk,h.row.kbs ht hk,h.lo,h.ok,h.few⟩
theorem JD(w:World)(v:Value)(l:List Int)(h:De w v l)(hn:l.length<=1000000):
  Calls Tryz.prog 24 #[v] w fun e w'=>∃g ns rv,e= .returned (.pointer (some ⟨g,0,none⟩))/\GrR (w.heap.size+1) g w' ns rv/\ns.length<=75/\Ext w w':=by
 have fw:=J (OX w v l h hn);obtain⟨A0,c0,rfl,vq,vp,vo⟩:=h.open;clear h vq vp vo;go_enter Tryz.func24,Tryz.ntmps24;go_wp2_with fail;refine fw.o.mono ?_
 rintro e w1 ⟨rfl,ht,hx,hs⟩;have oy:=J ht;have ah:=J hx;have aM:=J (Blk.new w1 71 #[.slice none 0 0]);have kK:=hs;obtain⟨tg,uF⟩:∃tg,tg=w.heap.size:=⟨_,rfl⟩;obtain⟨g,hg⟩:∃g,g=w1.heap.size:=⟨_,rfl⟩;rw[<-hg]at aM;rw[<-uF]at oy ⊢;rw[<-hg,<-uF]at kK;have HGS:=J hg;have dh:=J uF;have mX:=J kK;clear fw ht hx hs;go_upto_region 3 with fail;rw[<-hg,<-uF];have aq:=J (ah.o.alloc (.cells #[.slice none 0 0] 71));have eM:=J (oy.o.below (Below.alloc (Below.refl (tg+1) w1) (by omega) (.cells #[.slice none 0 0] 71)));obtain⟨w2,aY⟩:∃w2,w2=w1.alloc (.cells #[.slice none 0 0] 71):=⟨_,rfl⟩;rw[<-aY]at aq aM eM;rw[<-aY];clear aY;have dE:Hid (GrR (tg+1) g w2 [] (.slice none 0 0)):=J ⟨aM.o,Ak.nil _ _,by omega,Aw.nil,by decide⟩;clear hg uF kK oy ah;go_loopw [9] (fun _ wr=>∃a ns rv,BI (tg+1) tg wr (.slice A0 l.length c0) l a/\GrR (tg+1) g wr ns rv/\ns.length<=75/\Ext w wr) (fun _ wr=>l.length-QZ wr tg)
 case atStart=>exact⟨0,[],_,eM.o,dE.o,by decide,aq.o⟩
 case round=>
  obtain⟨a,ns,rv,ht,al,fx,hx⟩:=hrel;have HT:=J ht;have HG:=J al;have HX:=J hx;have bF:=J ht.place;have nf:=J (ME (tg+1) tg wr (.slice A0 l.length c0) l a ht);obtain⟨A,c,rfl⟩:=al.row.shape;have k0:=al.blk.oneG;have bU:=hx.size;clear ht al hx;by_cases hal:a<l.length
  ·rw[decide_eq_true hal]at nf;by_cases hn60:ns.length<60
   ·have zQ:decide ((ns.length:Int)<60)=true:=decide_eq_true (by omega);have Wc:(ns.length:Int)<60:=by omega
    have dX:=BV (l:=l) (a:=a) (n:=4-1+1) (by decide);have kF:=J (fun W h=>KI (tg+1) tg W (.slice A0 l.length c0) l a 1 4 h (by decide) (by decide) (by decide));have fL:=J (fun W h=>DU (tg+1) tg W (.slice A0 l.length c0) l (CT l a) 2 h (by decide) (by decide));have ly:CT l a=a+1:=by unfold CT;rw[if_pos hal]
    rw[ly]at kF fL;have pH:=G6 l (a+1);generalize CT l (a+1)=a2 at *;obtain⟨K,hK⟩:∃K:Nat,(K:Int)=1+Cd l a (4-1+1):=⟨(1+Cd l a (4-1+1)).toNat,by omega⟩;rw[<-hK]at kF;have WF:1<=K:=by omega
    have Zi:K<=4:=by omega
    clear hK dX ly;obtain⟨bb,fW⟩:∃bb:Bool,bb=(Cd l (a+1) 2 == 0):=⟨_,rfl⟩;generalize Cd l (a+1) 2=y2 at *;go_wp2_with fail;refine nf.o.mono ?_
    rintro e w3 ⟨rfl,hd⟩;have kW:=J (HT.o.below (hd.belowN _));have eQ:=J (HG.o.keep hd.ext);have aj:=J (HX.o.trans hd.ext);have X5:=hd.ext.size;have k0:=eQ.o.blk.oneG;clear hd;go_wp2_with fail;refine(kF.o _ kW.o).mono ?_
    rintro e w4 ⟨rfl,VO,d9⟩;have ZV:=J VO;have iS:=J (eQ.o.kb (by have q1:=dh.o;have q2:=mX.o;omega) (d9 _));have aE:=J ((d9 w3.heap.size).to_ext aj.o (by have q1:=dh.o;have q2:=mX.o;omega) (by have q1:=dh.o;have q2:=mX.o;omega));have xI:=(d9 0).size;clear VO d9;go_wp2_with fail;refine(fL.o _ ZV.o).mono ?_
    rintro e w5 ⟨rfl,pt,eK⟩;have t6:=J pt;have li:=J (iS.o.kb (by have q1:=dh.o;have q2:=mX.o;omega) (eK _));have bg:=J ((eK w4.heap.size).to_ext aE.o (by have q1:=dh.o;have q2:=mX.o;omega) (by have q1:=dh.o;have q2:=mX.o;omega));have xH:=(eK 0).size;clear pt eK;go_wp2_with fail;rw[<-fW];refine(Qt K tg w5 (.slice A0 l.length c0) l a2 bb (t6.o.mono (by have q1:=dh.o;have q2:=mX.o;omega)) WF (by omega)).mono ?_
    rintro e w6 ⟨x,v6,a6,rfl,eT,cQ,jh,ag,mQ,hk⟩;rw[List.nil_append]at ag;have Yg:2 ^ K<=2 ^ 4:=Nat.pow_le_pow_right (by omega) Zi;have tJ:x.size<=15:=by omega
    have Xf:=J (Cg.newR ag li.o);have tq:=J (li.o.kb (by have q1:=dh.o;have q2:=mX.o;omega) hk);have aO:=J (hk.to_ext bg.o (by have q1:=dh.o;have q2:=mX.o;omega) (by have q1:=dh.o;have q2:=mX.o;omega));have qU:Hid (BI (tg+1) tg w6 (.slice A0 l.length c0) l a6):=J (t6.o.kb (hk.mono (by have q1:=dh.o;have q2:=mX.o;omega)) mQ.1.blk mQ.1.pos);have YC:=mQ.2;clear ag mQ hk Yg cQ;obtain⟨A6,c6,rfl,_⟩:=Xf.o;have ao:=Sc x ns;go_wp2_with fail;refine(Ri (tg+1) g w6 ns _ _ x tq.o Xf.o eT (by omega) (by omega) (by omega)).mono ?_
    rintro r w7 ⟨Xw,rfl,il,iK⟩;have bX:=J (il.belowR tq.o);have pj:=J iK;have qT:=J (qU.o.below bX.o);clear il iK;go_wp2_with fail;go_roundw
    case rel=>exact⟨a6,_,Xw,qT.o,pj.o,by omega,aO.o.more (Below.mono bX.o (by have q1:=dh.o;have q2:=mX.o;omega))⟩
    case measure=>
     rw[qT.o.place,bF.o];omega
   ·have zQ:decide ((ns.length:Int)<60)=false:=decide_eq_false (by omega);go_wp2_with fail;refine nf.o.mono ?_
    rintro e w3 ⟨rfl,hd⟩;have eQ:=J (HG.o.keep hd.ext);have aj:=J (HX.o.trans hd.ext);have k0:=eQ.o.blk.oneG;clear hd;go_wp2_with fail;go_ret;exact⟨g,ns,_,rfl,by rw[<-dh.o];exact eQ.o,fx,aj.o⟩
  ·rw[decide_eq_false hal]at nf;go_wp2_with fail;refine nf.o.mono ?_
   rintro e w3 ⟨rfl,hd⟩;have eQ:=J (HG.o.keep hd.ext);have aj:=J (HX.o.trans hd.ext);clear hd;go_wp2_with fail;go_ret;exact⟨g,ns,_,rfl,by rw[<-dh.o];exact eQ.o,fx,aj.o⟩
end Big
end Go.Proofs.YtkoaogkknnelaaaGreatDoor
