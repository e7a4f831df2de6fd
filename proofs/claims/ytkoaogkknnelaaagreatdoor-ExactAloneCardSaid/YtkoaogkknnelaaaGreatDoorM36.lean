import Derived.Test.YtkoaogkknnelaaaGreatDoorM35
set_option linter.unusedVariables false
set_option linter.unusedSimpArgs false
set_option maxHeartbeats 8000000
set_option maxRecDepth 100000
namespace Go.Proofs.YtkoaogkknnelaaaGreatDoor
namespace Big
open Lib (hid)
open Go.RowKit
def Gs(x:Nd)(ns:List Nd):Int:=if x∈ns then (Cl x ns:Int) else-1
theorem RK{x:Nd}{ns:List Nd}{i:Nat}(hi:i<ns.length)(hx:ns[i]=x)(h:∀j (hj:j<ns.length),j<i->ns[j]≠x):Gs x ns=(i:Int):=by
 unfold Gs;rw[if_pos (by rw[<-hx];exact List.getElem_mem hi),KJ hi hx h]
theorem P9{x:Nd}{ns:List Nd}(h:∀j (hj:j<ns.length),j<ns.length->ns[j]≠x):Gs x ns= -1:=by
 unfold Gs;rw[if_neg];intro hm;obtain⟨j,hj,he⟩:=List.getElem_of_mem hm;exact h j hj hj he
theorem S7{x:Nd}{ns:List Nd}{i:Nat}(hi:i<ns.length)(h:∀j (hj:j<ns.length),j<i->ns[j]≠x)(hx:ns[i]≠x):∀j (hj:j<ns.length),j<i+1->ns[j]≠x:=by
 intro j hj vD;rcases Nat.lt_or_ge j i with h1|h1
 ·exact h j hj h1
 ·obtain rfl:j=i:=by omega
  exact hx
theorem JY(B g:Nat)(w:World)(ns:List Nd)(rv:Value)(h:GrR B g w ns rv)(x:Nd):
  Calls Tryz.prog 181 #[.pointer (some ⟨g,0,none⟩),ndV x] w fun e w'=>e= .returned (.int .i64 (Gs x ns))/\Ext w w':=by
 have iT:=hid (fun i hi hx h=>RK (x:=x) (ns:=ns) (i:=i) hi hx h);have fN:=hid (fun h=>P9 (x:=x) (ns:=ns) h);have Zk:=hid (fun i hi h hx=>S7 (x:=x) (ns:=ns) (i:=i) hi h hx);have ei:=h.few;obtain⟨A,c,xd,my⟩:=h.row.read;subst xd;have lC:=hid my;have HG:=hid h;obtain⟨z0,z1,z2,z3,z4⟩:=x;simp only[ndV];obtain⟨tz,qa⟩:∃tz:ByteArray,tz=⟨z4.toArray⟩:=⟨_,rfl⟩;have ac:str z4= .string tz:=by rw[qa];rfl
 rw[ac];have UY:tz.toList=z4:=by rw[qa];exact ByteArray.toList_mk _
 have pz:=hid UY;clear ac UY my h qa;have ag:=hid (Blk.new w 95 #[.int .i64 z0,.int .i64 z1,.int .i64 z2,.int .i64 z3,.string tz]);have ar:=hid ((Ext.refl w).alloc (.cells #[.int .i64 z0,.int .i64 z1,.int .i64 z2,.int .i64 z3,.string tz] 95));obtain⟨w1,a5⟩:∃w1,w1=w.alloc (.cells #[.int .i64 z0,.int .i64 z1,.int .i64 z2,.int .i64 z3,.string tz] 95):=⟨_,rfl⟩;rw[<-a5]at ag ar;obtain⟨n,gO⟩:∃n,n=ns.length:=⟨_,rfl⟩;have HN:=hid gO;rw[<-gO]at ei;rw[<-gO]at HG;have mj:=(HG.out.keep ar.out).blk.cell 0;go_enter Tryz.func181,Tryz.ntmps181;go_upto_region 1 with fail;rw[<-a5];clear a5 gO;obtain⟨k0,_,eC⟩:=(HG.out.keep ar.out).blk.oneG;clear mj;go_wp2_with fail;go_loopw [12] (fun wD wr=>∃i:Nat,i<=n/\wD= .int .i64 (i:Int)/\Hid (∀j (hj:j<ns.length),j<i->ns[j]≠⟨z0,z1,z2,z3,z4⟩)/\Ext w1 wr) (fun wD _=>n-(intOf wD).toNat)
 case atStart=>exact⟨0,Nat.zero_le _,rfl,hid (fun j _ hj=>by omega),Ext.refl w1⟩
 case round=>
  obtain⟨i,hi,rfl,pL,hx⟩:=hrel;have HX:=hid hx;have nZ:IntKind.i64.wrap ((i:Int)+1)=(i:Int)+1:=IntWalk.i64_in _ (by omega);by_cases hlt:i<n
  ·have hit:i<ns.length:=by rw[<-HN.out];exact hlt
   obtain⟨gb,o,rfl,eR,hc⟩:=lC.out (by have:=HN.out;omega);obtain⟨p0,p1,p2,p3,p4⟩:=hc i hit;have bF:=ar.out.trans hx;rw[<-bF.cell eR]at p0 p1 p2 p3 p4;have au:gb<wr.heap.size:=Nat.lt_of_lt_of_le eR bF.size;have bZ:=hid (fun he=>iT.out i hit he pL.out);have ie:=hid (fun he=>Zk.out i hit pL.out he);have aQ:(0:Int)<=(i:Int):=by omega
   have i7:(i:Int)<(n:Int):=by omega
   clear hc bF hx;generalize ns[i]=x at *;clear hit;obtain⟨y0,y1,y2,y3,y4⟩:=x;simp only at p0 p1 p2 p3 p4;have U3:str y4= .string ⟨y4.toArray⟩:=rfl;rw[U3]at p4;have UZ:(⟨y4.toArray⟩:ByteArray).toList=y4:=ByteArray.toList_mk _;have yS:=hid UZ;clear U3 UZ;have VV:=hid (Blk.new wr 95 #[.int .i64 y0,.int .i64 y1,.int .i64 y2,.int .i64 y3,.string ⟨y4.toArray⟩]);have VU:=hid ((Ext.refl wr).alloc (.cells #[.int .i64 y0,.int .i64 y1,.int .i64 y2,.int .i64 y3,.string ⟨y4.toArray⟩] 95));obtain⟨wy,wO⟩:∃wy,wy=wr.alloc (.cells #[.int .i64 y0,.int .i64 y1,.int .i64 y2,.int .i64 y3,.string ⟨y4.toArray⟩] 95):=⟨_,rfl⟩;rw[<-wO]at VV VU;go_upto_region 4 with fail;rw[<-wO];clear wO p0 p1 p2 p3 p4;have q9:=hid (HX.out.trans VU.out);have q0:=(ag.out.ext q9.out).five;have r0:=VV.out.five;by_cases e0:y0=z0
   case neg=>
    have b0:(y0 == z0)=false:=by rw[beq_eq_false_iff_ne];exact e0
    have c0:(y0 != z0)=true:=by rw[bne_iff_ne];exact e0
    have ef:=hid (ie.out (fun he=>e0 (by injection he)));clear e0 bZ ie;generalize (⟨y4.toArray⟩:ByteArray)=ty at *;go_wp2_with fail;go_roundw
    case rel=>exact⟨i+1,by omega,by go_num,ef.out,q9.out⟩
    case measure=>simp[intOf];omega
   case pos=>
    subst e0;by_cases e1:y1=z1
    case neg=>
     have b1:(y1 == z1)=false:=by rw[beq_eq_false_iff_ne];exact e1
     have c1:(y1 != z1)=true:=by rw[bne_iff_ne];exact e1
     have ef:=hid (ie.out (fun he=>e1 (by injection he)));clear e1 bZ ie;generalize (⟨y4.toArray⟩:ByteArray)=ty at *;go_wp2_with fail;go_roundw
     case rel=>exact⟨i+1,by omega,by go_num,ef.out,q9.out⟩
     case measure=>simp[intOf];omega
    case pos=>
     subst e1;by_cases e2:y2=z2
     case neg=>
      have b2:(y2 == z2)=false:=by rw[beq_eq_false_iff_ne];exact e2
      have c2:(y2 != z2)=true:=by rw[bne_iff_ne];exact e2
      have ef:=hid (ie.out (fun he=>e2 (by injection he)));clear e2 bZ ie;generalize (⟨y4.toArray⟩:ByteArray)=ty at *;go_wp2_with fail;go_roundw
      case rel=>exact⟨i+1,by omega,by go_num,ef.out,q9.out⟩
      case measure=>simp[intOf];omega
     case pos=>
      subst e2;by_cases e3:y3=z3
      case neg=>
       have b3:(y3 == z3)=false:=by rw[beq_eq_false_iff_ne];exact e3
       have c3:(y3 != z3)=true:=by rw[bne_iff_ne];exact e3
       have ef:=hid (ie.out (fun he=>e3 (by injection he)));clear e3 bZ ie;generalize (⟨y4.toArray⟩:ByteArray)=ty at *;go_wp2_with fail;go_roundw
       case rel=>exact⟨i+1,by omega,by go_num,ef.out,q9.out⟩
       case measure=>simp[intOf];omega
      case pos=>
       subst e3;by_cases e4:y4=z4
       case neg=>
        have b4:((⟨y4.toArray⟩:ByteArray).toList == (tz:ByteArray).toList)=false:=by rw[yS.out,pz.out,beq_eq_false_iff_ne];exact e4
        have c4:((⟨y4.toArray⟩:ByteArray).toList != (tz:ByteArray).toList)=true:=by rw[yS.out,pz.out,bne_iff_ne];exact e4
        have ef:=hid (ie.out (fun he=>e4 (by injection he)));clear e4 bZ ie;generalize (⟨y4.toArray⟩:ByteArray)=ty at *;go_wp2_with fail;go_roundw
        case rel=>exact⟨i+1,by omega,by go_num,ef.out,q9.out⟩
        case measure=>simp[intOf];omega
       case pos=>
        subst e4;have b4:((⟨y4.toArray⟩:ByteArray).toList == (tz:ByteArray).toList)=true:=by rw[yS.out,pz.out,beq_self_eq_true]
        have ka:=hid (bZ.out rfl);generalize (⟨y4.toArray⟩:ByteArray)=ty at *;clear bZ ie;go_wp2_with fail;go_ret;exact⟨by rw[ka.out];rfl,ar.out.trans q9.out⟩
  ·obtain rfl:i=n:=by omega
   have HE:=hid (fN.out (fun j hj _=>pL.out j hj (by rw[HN.out];exact hj)));clear hx;go_wp2_with fail;go_ret;exact⟨by rw[HE.out];rfl,ar.out.trans HX.out⟩
def Js(B g:Nat)(ns:List Nd)(rv:Value)(x:Nd)(w:World)(e:Ending)(w':World):Prop:=
 ∃rv',e= .returned (.tuple #[.int .i64 ((Bg ns x).1:Int),.int .i64 0])/\KG g g rv rv' w w'/\GrR B g w' (Bg ns x).2 rv'
theorem QS(B g:Nat)(w:World)(ns:List Nd)(rv:Value)(h:GrR B g w ns rv)(x:Nd)(hx:CL ns.length x)(hin:x∈ns):
  Calls Tryz.prog 138 #[.pointer (some ⟨g,0,none⟩),ndV x] w (Js B g ns rv x w):=by
 have eO:=hid (fun W h=>JX B g W ns rv h x hx);have fN:=hid (fun W h=>JY B g W ns rv h x);have t6:Gs x ns=(Cl x ns:Int):=by unfold Gs;rw[if_pos hin]
 rw[t6]at fN;have HG:=hid h;have gm:(Bg ns x).1=Cl x ns:=by unfold Bg;rw[if_pos hin]
 have eX:(Bg ns x).2=ns:=by unfold Bg;rw[if_pos hin]
 have ru:=hid gm;have rt:=hid eX;clear gm eX hin t6 hx;obtain⟨A,c,rfl⟩:=h.row.shape;clear h;generalize hpl:Cl x ns=pl at *;clear hpl;obtain⟨k,a,d,n,t⟩:=x;simp only[ndV]at eO fN ⊢;obtain⟨s,hs⟩:∃s:ByteArray,s=⟨t.toArray⟩:=⟨_,rfl⟩;have ac:str t= .string s:=by rw[hs];rfl
 rw[ac]at eO fN ⊢;clear hs ac;have ag:=hid (Blk.new w 95 #[.int .i64 k,.int .i64 a,.int .i64 d,.int .i64 n,.string s]);have ar:=hid ((Ext.refl w).alloc (.cells #[.int .i64 k,.int .i64 a,.int .i64 d,.int .i64 n,.string s] 95));obtain⟨w1,a5⟩:∃w1,w1=w.alloc (.cells #[.int .i64 k,.int .i64 a,.int .i64 d,.int .i64 n,.string s] 95):=⟨_,rfl⟩;rw[<-a5]at ag ar;have q0:=ag.out.five;have Xn:(0:Int)<=(pl:Int):=by omega
 go_enter Tryz.func138,Tryz.ntmps138;go_upto_region 1 with fail;rw[<-a5];clear a5;go_wp2_with fail;refine(eO.out w1 (HG.out.keep ar.out)).mono ?_
 rintro e w2 ⟨rfl,ah⟩;have aP:=hid (ar.out.trans ah);have aY:=hid (ag.out.ext ah);clear q0 ah;have q0:=aY.out.five;go_wp2_with fail;refine(fN.out w2 (HG.out.keep aP.out)).mono ?_
 rintro e w3 ⟨rfl,ab⟩;have ay:=hid (aP.out.trans ab);clear q0 ab;go_wp2_with fail;go_ret2;refine⟨_,by rw[ru.out];rfl,KG.of_ext ay.out,?_⟩;rw[rt.out];exact HG.out.keep ay.out
theorem QT(B g:Nat)(w:World)(ns:List Nd)(rv:Value)(h:GrR B g w ns rv)(x:Nd)(hx:CL ns.length x)(hin:x∉ns)(cn:ns.length<4096):
  Calls Tryz.prog 138 #[.pointer (some ⟨g,0,none⟩),ndV x] w (Js B g ns rv x w):=by
 have eO:=hid (fun W h=>JX B g W ns rv h x hx);have fN:=hid (fun W h=>JY B g W ns rv h x);have t6:Gs x ns= -1:=by unfold Gs;rw[if_neg hin]
 rw[t6]at fN;have HG:=hid h;have gm:(Bg ns x).1=ns.length:=by unfold Bg;rw[if_neg hin]
 have eX:(Bg ns x).2=ns++[x]:=by unfold Bg;rw[if_neg hin]
 have jA:Hid (AC (ns++[x])):=hid (by rw[<-eX];exact h.ok.put hx);have ru:=hid gm;have rt:=hid eX;clear gm eX hin t6 hx;have iE:=h.lo;have oU:=hid h.apart2;have xQ:=h.lt;obtain⟨A,c,rfl⟩:=h.row.shape;clear h;obtain⟨i0,hi,aE,hz1,bx⟩:=info_parts Eo;obtain⟨k,a,d,n,t⟩:=x;simp only[ndV]at eO fN ⊢;obtain⟨s,hs⟩:∃s:ByteArray,s=⟨t.toArray⟩:=⟨_,rfl⟩;have oF:Hid (ndC ⟨k,a,d,n,t⟩=[.int .i64 k,.int .i64 a,.int .i64 d,.int .i64 n,.string s]):=hid (by rw[hs];rfl);have ac:str t= .string s:=by rw[hs];rfl
 rw[ac]at eO fN ⊢;clear hs ac;have ag:=hid (Blk.new w 95 #[.int .i64 k,.int .i64 a,.int .i64 d,.int .i64 n,.string s]);have ar:=hid ((Ext.refl w).alloc (.cells #[.int .i64 k,.int .i64 a,.int .i64 d,.int .i64 n,.string s] 95));obtain⟨w1,a5⟩:∃w1,w1=w.alloc (.cells #[.int .i64 k,.int .i64 a,.int .i64 d,.int .i64 n,.string s] 95):=⟨_,rfl⟩;have cg:w1.heap.size=w.heap.size+1:=by rw[a5];simp
 rw[<-a5]at ag ar;have q0:=ag.out.five;have nI:decide ((ns.length:Int)>=4096)=false:=decide_eq_false (by omega);have X4:decide (4096<=(ns.length:Int))=false:=decide_eq_false (by omega);go_enter Tryz.func138,Tryz.ntmps138;go_upto_region 1 with fail;rw[<-a5];clear a5;go_wp2_with fail;refine(eO.out w1 (HG.out.keep ar.out)).mono ?_
 rintro e w2 ⟨rfl,ah⟩;have aP:=hid (ar.out.trans ah);have aY:=hid (ag.out.ext ah);clear q0 ah;have q0:=aY.out.five;go_wp2_with fail;refine(fN.out w2 (HG.out.keep aP.out)).mono ?_
 rintro e wA ⟨rfl,ab⟩;have be:=hid (aP.out.trans ab);have wi:=hid (aY.out.ext ab);have nj:=hid (HG.out.keep be.out);have U5:w.heap.size<wA.heap.size:=by have h1:=ab.size;have h2:=aY.out.lt;omega
 clear q0 ab;have q0:=wi.out.five;obtain⟨k0,f0,eC⟩:=nj.out.blk.oneG;go_upto_region 8 with fail;have iM:Hid (∀w':World,(wA.alloc (.cells #[.int .i64 k,.int .i64 a,.int .i64 d,.int .i64 n,.string s] 95)).drew.grownBy w' (Value.slice A ns.length c).ownBlock->Blk w' g 71 #[.slice A ns.length c]/\wA.grownBy w' (Value.slice A ns.length c).ownBlock):=hid (fun w' au=>by
  have jS:wA.grownBy w' (Value.slice A ns.length c).ownBlock:=by
   refine⟨au.os,au.tape,au.output,?_,fun i h1 h2=> ?_⟩
   ·have:=au.size;simp only[World.size_drew,World.size_alloc]at this;omega
   ·exact(au.block i (by simp only[World.size_drew,World.size_alloc];omega) h2).trans (Below.heap_alloc wA _ i h1)
  exact⟨(jS.block g eC (fun e=>oU.out e.symm)).trans nj.out.blk,jS⟩)
 have jE:Hid (∀(j:Nat) (u:Value),[.int .i64 k,.int .i64 a,.int .i64 d,.int .i64 n,.string s][j]? =some u->(wA.alloc (.cells #[.int .i64 k,.int .i64 a,.int .i64 d,.int .i64 n,.string s] 95)).drew.cell? ((⟨wA.heap.size,0,none⟩:Addr).add j)=some u):=hid (fun j u hj=>by
  have h1:=(Blk.new wA 95 #[.int .i64 k,.int .i64 a,.int .i64 d,.int .i64 n,.string s]).drew.cell j;have h2:(⟨wA.heap.size,0,none⟩:Addr).add j=⟨wA.heap.size,j,none⟩:=by
   unfold Addr.add;split
   ·rename_i h;subst h;rfl
   ·simp
  rw[h2,h1,<-hj];simp)
 have dA:Hid ((wA.alloc (.cells #[.int .i64 k,.int .i64 a,.int .i64 d,.int .i64 n,.string s] 95)).drew.ownsRow B 95 5 (.slice A ns.length c) ns.length (Bz ns)):=hid (Af nj.out.row (fun k _ hk=>Below.heap_alloc wA _ k hk));have ir:Hid (ns.length+1<=maxLen):=hid (by unfold maxLen;omega);have ef:Hid ((ns.length+1)*48<=140737488355328):=hid (by omega);have rA:Hid (B<=(wA.alloc (.cells #[.int .i64 k,.int .i64 a,.int .i64 d,.int .i64 n,.string s] 95)).drew.heap.size):=hid (by simp only[World.size_drew,World.size_alloc];omega)
 go_region_law (refine step_append_lies _ rfl (.tmp 27) (.tmp 29) 32 rfl B 95 i0 _ 5 48 Tryz.underlying32 hi aE hz1 bx rfl (by decide) _ ns.length (Bz ns) rfl dA.out ⟨wA.heap.size,0,none⟩ 1 1 [.int .i64 k,.int .i64 a,.int .i64 d,.int .i64 n,.string s] rfl rfl jE.out (by simp[Value.oneCell']) (by decide) ir.out ef.out rA.out _ rfl ?_;intro g' c' w' ai au hat hlt;have oI:=hid ai;have eg:=hid (iM.out w' au);have fW:=hid hat;clear ai au hat;have m0:=eg.out.1.oneG)
 all_goals
  have xq:g'≠g:=by
   rcases fW.out with h4|h4
   ·exact fun e=>oU.out (h4.trans (congrArg some e))
   ·simp only[World.size_drew,World.size_alloc]at h4;omega
  have dY:=eg.out.1.set_ 0 (.slice (some ⟨g',0,none⟩) (ns.length+1) c');have a9:=B9 (w':=w'.setCell ⟨g,0,none⟩ (.slice (some ⟨g',0,none⟩) (ns.length+1) c')) oI.out (fun k hk=>Below.heap_setCell _ _ _ k (by
   simp only[Value.ownBlock,Option.some.injEq]at hk;show k≠g;omega))
  have eS:∀k,k<w.heap.size->k≠g->(Value.slice A ns.length c).ownBlock≠some k->(w'.setCell ⟨g,0,none⟩ (.slice (some ⟨g',0,none⟩) (ns.length+1) c')).heap[k]? =w.heap[k]? :=fun k h1 h2 h3=>
   (Below.heap_setCell _ _ _ k h2).trans ((eg.out.2.block k (by omega) (fun e=>h3 e.symm)).trans (be.out.block k h1))
  have tu:(w'.setCell ⟨g,0,none⟩ (.slice (some ⟨g',0,none⟩) (ns.length+1) c')).os=w.os/\(w'.setCell ⟨g,0,none⟩ (.slice (some ⟨g',0,none⟩) (ns.length+1) c')).tape=w.tape/\(w'.setCell ⟨g,0,none⟩ (.slice (some ⟨g',0,none⟩) (ns.length+1) c')).output=w.output/\wA.heap.size<=(w'.setCell ⟨g,0,none⟩ (.slice (some ⟨g',0,none⟩) (ns.length+1) c')).heap.size:=by
   have h2:=Below.setCell (Below.refl g w') (p:=⟨g,0,none⟩) (Nat.le_refl _) (.slice (some ⟨g',0,none⟩) (ns.length+1) c');have h4:=eg.out.2;exact⟨h2.os.trans (h4.os.trans be.out.os),h2.tape.trans (h4.tape.trans be.out.tape),h2.output.trans (h4.output.trans be.out.output),Nat.le_trans h4.size h2.size⟩
  generalize (w'.setCell ⟨g,0,none⟩ (.slice (some ⟨g',0,none⟩) (ns.length+1) c'))=wB at *;have oN:=hid dY;have ic:=hid a9;have rU:=hid eS;have lm:=hid tu;clear q0 k0 f0 m0 a9 eS tu;obtain⟨k0,f0,tV⟩:=Blk.oneG dY;clear dY;have a5:IntKind.i64.wrap ((ns.length:Int)+1-1)=(ns.length:Int):=by rw[IntKind.wrap_i64];omega
  have ck:IntKind.i64.wrap (((ns.length+1:Nat):Int)-1)=(ns.length:Int):=by rw[IntKind.wrap_i64];omega
  go_wp2_with fail;go_ret2;have WL:=lm.out.2.2.2;refine⟨(.slice (some ⟨g',0,none⟩) (ns.length+1) c'),by rw[ru.out];rfl,⟨lm.out.1,lm.out.2.1,lm.out.2.2.1,by omega,fun k h1 h2 h3 h4=>rU.out k h1 h2 h4,fun j hj=> ?_⟩,?_⟩
  ·have h5:g'=j:=Option.some.inj hj;rcases fW.out with h4|h4
   ·exact .inl (h4.trans (congrArg some h5))
   ·simp only[World.size_drew,World.size_alloc]at h4;exact .inr (by omega)
  ·rw[rt.out];refine⟨oN.out,?_,iE,jA.out,by simp only[List.length_append,List.length_singleton];omega⟩;unfold AB;rw[CW,Ek,oF.out,List.length_append,List.length_singleton];exact ic.out
theorem QU(B g:Nat)(w:World)(ns:List Nd)(rv:Value)(h:GrR B g w ns rv)(x:Nd)(hx:CL ns.length x)(cn:ns.length<4096):
  Calls Tryz.prog 138 #[.pointer (some ⟨g,0,none⟩),ndV x] w (Js B g ns rv x w):=by
 by_cases hin:x∈ns
 ·exact QS B g w ns rv h x hx hin
 ·exact QT B g w ns rv h x hx hin cn
theorem Br.shape{B n:Nat}{w:World}{v:Value}{S:List Nat}(h:Br B w v n S):∃A c,v= .slice A n c:=Ap h
theorem Br.pos{B n:Nat}{w:World}{v:Value}{S:List Nat}(h:Br B w v n S)(hn:0<n):∃g c,v= .slice (some ⟨g,0,none⟩) n c:=by
 rcases h.2 with ⟨_,h2⟩|⟨g,cap,cur,hv,_⟩
 ·omega
 ·exact⟨g,cap,hv⟩
theorem Br.nil(B:Nat)(w:World):Br B w (.slice none 0 0) 0 []:=World.ownsRow_nil w B _ 1
def ET(B g:Nat)(ns:List Nd)(rv:Value)(e:Ex)(w:World)(i:Nat)(at_:Value)(wr:World):Prop:=
 ∃rv',KG g g rv rv' w wr/\GrR B g wr (Bx ([],ns) ((Ah 0 e).take i)).2 rv'/\Br w.heap.size wr at_ i (Bx ([],ns) ((Ah 0 e).take i)).1/\D7 rv' at_
theorem ET.start{B g:Nat}{ns:List Nd}{rv:Value}{e:Ex}{w w1:World}(h:GrR B g w ns rv)(hx:Ext w w1):ET B g ns rv e w 0 (.slice none 0 0) w1:=
 ⟨rv,KG.of_ext hx,by rw[List.take_zero];exact h.keep hx,by rw[List.take_zero];exact Br.nil _ _,fun _ _ h2=>by cases h2⟩
theorem ET.next {B g i g6:Nat} {ns gs:List Nd} {rv rv1 rv2:Value} {e:Ex} {w wr w1 w2 w6:World} {at_ at2:Value} {bw:List Nat} {o:Obj} {x:Nd} (h0:GrR B g w ns rv)
  (ac:Bx ([],ns) ((Ah 0 e).take (i+1))=(bw++[(Bg gs (BO bw x)).1],(Bg gs (BO bw x)).2))
  (h1:KG g g rv rv1 w wr) (ha:D7 rv1 at_) (hr:Br w.heap.size wr at_ i bw) (hx:Ext wr w1) (hk:KG g g rv1 rv2 w1 w2) (hp:GrR B g w2 (Bg gs (BO bw x)).2 rv2)
  (au:(w2.alloc o).grownBy w6 at_.ownBlock) (hat:at_.ownBlock=some g6\/g6=(w2.alloc o).heap.size) (hu:at2.ownBlock=some g6)
  (hn:Br w.heap.size w6 at2 (i+1) (bw++[(Bg gs (BO bw x)).1])):ET B g ns rv e w (i+1) at2 w6:=by
 have hs:(w2.alloc o).heap.size=w2.heap.size+1:=by simp
 have eR:=h0.lt;have eQ:=(KG.of_ext hx).trans hk;have cB:=h1.size;have jL:=eQ.size;have nM:at_.ownBlock≠some g:=fun he=>by have:=(hr.blt g he).1;omega
 have fc:∀j,rv2.ownBlock=some j->at_.ownBlock≠some j:=fun j hj he=>by
  rcases eQ.move j hj with h5|h5
  ·exact ha j h5 he
  ·have:=(hr.blt j he).2;omega
 have dU:∀j,j<w2.heap.size->at_.ownBlock≠some j->w6.heap[j]? =w2.heap[j]? :=fun j hj hne=>(au.block j (by omega) (fun e=>hne e.symm)).trans (Below.heap_alloc w2 o j hj)
 have th:=au.size;have nG:=hp.lt;refine⟨rv2,?_,?_,?_,?_⟩
 ·have k2:=h1.trans eQ;refine⟨au.os.trans k2.os,au.tape.trans k2.tape,au.output.trans k2.output,by omega,fun k p1 p2 p3 p4=>(dU k (by have:=k2.size;omega) (fun he=>by have:=(hr.blt k he).1;omega)).trans (k2.block k p1 p2 p3 p4),k2.move⟩
 ·rw[ac];exact⟨(dU g nG nM).trans hp.blk,B9 hp.row (fun k hk'=>dU k (BE hp.row hk') (fc k hk')),hp.lo,hp.ok,hp.few⟩
 ·rw[ac];exact hn
 ·intro j hj he;rw[hu]at he;injection he with he
  subst he;rcases hat with h5|h5
  ·exact fc g6 hj h5
  ·have:=BE hp.row hj;omega
def MF(B g:Nat)(ns:List Nd)(rv:Value)(e:Ex)(w:World)(r:Ending)(w':World):Prop:=
 ∃(rv':Value) (gi ci:Nat) (more:List Nat),r= .returned (.tuple #[.slice (some ⟨gi,0,none⟩) e.size ci,.int .i64 0])/\more.length+1=e.size/\w'.cell? ⟨gi,more.length,none⟩=some (.int .i64 ((Ba ns e).1:Int))/\KG g g rv rv' w w'/\GrR B g w' (Ba ns e).2 rv'
theorem QY(B g:Nat)(w:World)(ns:List Nd)(rv v:Value)(e:Ex)(h:GrR B g w ns rv)(hv:CD g g rv w v (Ah 0 e))(hJ:e.Good)(cB:e.size<=200)(gQ:e.depth<=40)(cn:ns.length+e.size<=4096):
  Calls Tryz.prog 79 #[.pointer (some ⟨g,0,none⟩),v] w (MF B g ns rv e w):=by
 have mN:=hid (JN w v (Ah 0 e) hv.read (by rw[AE];omega) (GT e hJ 0));rw[Hd e hJ,decide_eq_true ⟨cB,gQ⟩]at mN;have HG:=hid h;have HV:=hid hv;obtain⟨i0,xK,aE,hz1,bx⟩:=info_parts Jd;obtain⟨n,hn⟩:∃n,n=e.size:=⟨_,rfl⟩;have kD:=AE e 0;obtain⟨A1,c1,rfl,_⟩:=hv;rw[kD,<-hn]at mN HV ⊢;unfold MF;rw[<-hn];have HN:=hid hn;have ix:=hid kD;have dH:1<=n:=by rw[hn];exact e.size_pos
 have hn2:n<=200:=by omega
 obtain⟨A,c,rfl⟩:=h.row.shape;have fM:=hid hJ;have ze:=hid cn;have k0:=h.blk.oneG;clear h hn kD hJ cB gQ cn k0;go_enter Tryz.func79,Tryz.ntmps79;go_wp2_with fail;refine mN.out.mono ?_
 rintro r w1 ⟨rfl,aj⟩;have ar:=hid aj;have k0:=(HG.out.keep aj).blk.oneG;clear aj;have a5:∀i:Nat,i<n->IntKind.i64.wrap ((i:Int)+1)=(i:Int)+1:=fun i hi=>IntWalk.i64_in _ (by omega)
 have yQ:=hid a5;clear a5;go_wp2_with fail;go_loopw [7,22] (fun s7 ww wr=>∃i:Nat,i<=n/\ww= .int .i64 (i:Int)/\ET B g ns (.slice A ns.length c) e w i s7 wr) (fun _ ww _=>n-(intOf ww).toNat)
 case atStart=>exact⟨0,Nat.zero_le _,rfl,ET.start HG.out ar.out⟩
 case round=>
  obtain⟨i,hi,rfl,aX⟩:=hrel;by_cases hlt:i<n
  ·obtain⟨bC,jO,au,a9,fc⟩:=aX;have sj:i<e.size:=by rw[<-HN.out];exact hlt
   have hl:i<(Ah 0 e).length:=by rw[AE];exact sj
   have lb:=FG.at HG.out.ok fM.out i (Nat.le_of_lt sj);have ax:=GU e fM.out 0 i _ (List.getElem?_eq_getElem hl);rw[Nat.zero_add]at ax;have ik:=I9 lb ax;have qM:=lb.big;have aB:=lb.len;have eR:=HG.out.lt;have lc:=HV.out.keep jO;have bZ:=hid (FY ([],ns) (Ah 0 e) i hl);obtain⟨A2,c2,he2,dK⟩:=lc;obtain⟨q,o,hA,hq,p2,p3,p4,cD⟩:=dK (by omega);obtain⟨y0,y1,y2,y3,y4⟩:=cD i hl;simp only[Value.slice.injEq]at he2;obtain⟨rfl,ii,rfl⟩:=he2;clear ii;subst hA;have i7:(i:Int)<(n:Int):=by omega
   have aQ:(0:Int)<=(i:Int):=by omega
   have nZ:=yQ.out i hlt;clear dK cD p4;generalize ac:Bx ([],ns) (List.take i (Ah 0 e))=st at *;clear ac;obtain⟨bw,gs⟩:=st;simp only at au a9 aB lb ik qM;rw[F7]at bZ;simp only at bZ;have vm:=fc;have fK:=hid (fun rv2 w1 w2 w6 at2 g6 o hx hk hp au hat hu hn=>ET.next (rv2:=rv2) (w1:=w1) (w2:=w2) (w6:=w6) (at2:=at2) (g6:=g6) (o:=o) HG.out bZ.out jO fc a9 hx hk hp au hat hu hn);have bq:=hid (fun W h=>QU B g W gs bC h _ ik (by have:=ze.out;omega));obtain⟨A3,c3,rfl⟩:=a9.shape;have i9:∀j,j<i->∃ga,A3=some ⟨ga,0,none⟩/\ga<wr.heap.size/\wr.cell? ⟨ga,j,none⟩=some (.int .i64 ((bw.getD j 0:Nat):Int)):=fun j hj=>by
    obtain⟨ga,ca,he⟩:=a9.pos (by omega);injection he with he1 he2 he3
    subst he1;exact⟨ga,rfl,(a9.blt ga rfl).2,a9.get j hj⟩
   have kN:=hid i9;have ip:=hid a9;have ez:=hid au;have uZ:=hid jO;have Xc:=jO.size;have lf:=ax.args_len;have fI:=hid ax.oper;clear i9 a9 au jO fc lb ik bZ;generalize (Ah 0 e)[i]=x at *;clear hl;have nU:Hid (D7 bC (.slice A3 i c3)):=hid vm;clear vm;rcases ax with ⟨k,t,rfl,ho⟩|⟨k,nn,j,rfl,ho,hj⟩|⟨k,j,jq,rfl,hk,hj,tU⟩
   ·have i3:BO bw ⟨(k:Int),0,0,0,t⟩=⟨(k:Int),0,0,0,t⟩:=by
     have:=ho.lt;unfold BO;rw[if_neg (by simp only;omega),if_neg (by simp only;omega)]
    rw[i3]at bq fK;rw[Df ho]at fI;simp only at fI;have aO:=hid (fun W=>Bs W (k:Int));rw[fI.out]at aO;clear i3 ho fI;simp only[ndV]at bq;simp only at y0 y1 y2 y3 y4;generalize hkk:(k:Int)=kk at *;obtain⟨s,hs⟩:∃s:ByteArray,s=⟨(t:List UInt8).toArray⟩:=⟨_,rfl⟩;have ac:str t= .string s:=by rw[hs];rfl
    rw[ac]at y4 bq;clear hs ac hkk;have dd:=hid (Blk.new wr 95 #[.int .i64 kk,.int .i64 0,.int .i64 0,.int .i64 0,.string s]);have cU:=hid ((Ext.refl wr).alloc (.cells #[.int .i64 kk,.int .i64 0,.int .i64 0,.int .i64 0,.string s] 95));obtain⟨w7,dN⟩:∃w7,w7=wr.alloc (.cells #[.int .i64 kk,.int .i64 0,.int .i64 0,.int .i64 0,.string s] 95):=⟨_,rfl⟩;rw[<-dN]at dd cU;have q0:=dd.out.five;go_upto_region 8 with fail;rw[<-dN];clear dN y0 y1 y2 y3 y4;go_wp2_with fail;refine(aO.out _).mono ?_
    rintro r w8 ⟨rfl,rfl⟩;go_wp2_with fail;refine(aO.out _).mono ?_
    rintro r w9 ⟨rfl,rfl⟩;go_wp2_with fail;refine(bq.out w7 (ez.out.keep cU.out)).mono ?_
    rintro r w10 ⟨nv2,rfl,cO,dW⟩;have nf:=hid cO;have nk:=hid dW;have gy:=(KG.of_ext cU.out).trans cO;have gj:wr.heap.size<=w10.heap.size:=gy.size;have dT:Br w.heap.size w10 (.slice A3 i c3) i bw:=B9 ip.out (fun k hk=>gy.block k (BE ip.out hk) (fun e=>by have:=(ip.out.blt k hk).1;omega) (fun e=>by have:=(ip.out.blt k hk).1;omega) (fun e=>nU.out k e hk));have jg:=hid dT;clear gy dT cO dW q0;have gK:=hid (fun w6 at2 g6 o au hat hu hn=>fK.out nv2 w7 w10 w6 at2 g6 o cU.out nf.out nk.out au hat hu hn);generalize (Bg gs _).1=pid at *;have bB:Hid (i+1<=maxLen):=hid (by unfold maxLen;omega);have bA:Hid ((i+1)*8<=140737488355328):=hid (by omega);have eE:Hid ((w10.alloc (.cells #[.int .i64 (pid:Int)] 3)).ownsRow w.heap.size 3 1 (.slice A3 i c3) i (bw.map din)):=hid (Af jg.out (fun k _ hk=>Below.heap_alloc _ _ k hk));have cZ:=hid (BV w10 3 [.int .i64 (pid:Int)]);have cd:Hid (w.heap.size<=(w10.alloc (.cells #[.int .i64 (pid:Int)] 3)).heap.size):=hid (by simp;omega);go_wp2_with (at_builtin;go_must (refine wpList_append_lies _ rfl _ _ 41 rfl w.heap.size 3 i0 _ 1 8 Tryz.underlying41 xK aE hz1 bx rfl (by decide) (.slice A3 i c3) i (bw.map din) rfl eE.out ⟨w10.heap.size,0,none⟩ 1 1 [.int .i64 (pid:Int)] rfl rfl cZ.out (by simp[Value.oneCell']) (by decide) bB.out bA.out cd.out _ rfl ?_;intro g6 c6 w6 bd cj cA fD;have fJ:Hid (Br w.heap.size w6 (.slice (some ⟨g6,0,none⟩) (i+1) c6) (i+1) (bw++[pid])):=hid (by unfold Br;rw[List.map_append];exact bd);have vh:=hid (gK.out w6 (.slice (some ⟨g6,0,none⟩) (i+1) c6) g6 _ cj cA rfl fJ.out);clear bd cj cA fD));go_roundw
    case rel=>exact⟨i+1,hlt,by go_num,vh.out⟩
    case measure=>simp[intOf];omega
   ·have i3:BO bw ⟨(k:Int),(j:Int),0,nn,[]⟩=⟨(k:Int),((bw.getD j 0:Nat):Int),0,nn,[]⟩:=by
     have:=ho.1;unfold BO;rw[if_pos (by simp only;omega),if_neg (by simp only;omega)];rfl
    rw[i3]at bq fK;rw[DT ho]at fI;simp only at fI;have aO:=hid (fun W=>Bs W (k:Int));rw[fI.out]at aO;obtain⟨ga,rfl,fm,nh⟩:=kN.out j hj;have rM:=hid nh;have ou:(j:Int)<(i:Int):=by omega
    have si:(0:Int)<=(j:Int):=by omega
    clear i3 ho hj fI nh;generalize ((bw.getD j 0:Nat):Int)=va at *;simp only[ndV]at bq;simp only at y0 y1 y2 y3 y4;generalize hkk:(k:Int)=kk at *;obtain⟨s,hs⟩:∃s:ByteArray,s=⟨([]:List UInt8).toArray⟩:=⟨_,rfl⟩;have ac:str []= .string s:=by rw[hs];rfl
    rw[ac]at y4 bq;clear hs ac hkk;have dd:=hid (Blk.new wr 95 #[.int .i64 kk,.int .i64 (j:Int),.int .i64 0,.int .i64 nn,.string s]);have cU:=hid ((Ext.refl wr).alloc (.cells #[.int .i64 kk,.int .i64 (j:Int),.int .i64 0,.int .i64 nn,.string s] 95));obtain⟨w7,dN⟩:∃w7,w7=wr.alloc (.cells #[.int .i64 kk,.int .i64 (j:Int),.int .i64 0,.int .i64 nn,.string s] 95):=⟨_,rfl⟩;rw[<-dN]at dd cU;have q0:=dd.out.five;go_upto_region 8 with fail;rw[<-dN];clear dN y0 y1 y2 y3 y4;go_wp2_with fail;refine(aO.out _).mono ?_
    rintro r w8 ⟨rfl,rfl⟩;have v0:=(cU.out.cell fm).trans rM.out;have f1:=dd.out.frozen 1;have mW:=hid (dd.out.set_ 1 (.int .i64 va));have eD:=hid (cU.out.setCell (p:=⟨wr.heap.size,1,none⟩) (Nat.le_refl _) (.int .i64 va));have r0:=Blk.five mW.out;go_wp2_with fail;refine(aO.out _).mono ?_
    rintro r w9 ⟨rfl,rfl⟩;go_wp2_with fail;refine(bq.out (w7.setCell ⟨wr.heap.size,1,none⟩ (.int .i64 va)) (ez.out.keep eD.out)).mono ?_
    rintro r w10 ⟨nv2,rfl,cO,dW⟩;have nf:=hid cO;have nk:=hid dW;have gy:=(KG.of_ext eD.out).trans cO;have gj:wr.heap.size<=w10.heap.size:=gy.size;have dT:Br w.heap.size w10 (.slice (some ⟨ga,0,none⟩) i c3) i bw:=B9 ip.out (fun k hk=>gy.block k (BE ip.out hk) (fun e=>by have:=(ip.out.blt k hk).1;omega) (fun e=>by have:=(ip.out.blt k hk).1;omega) (fun e=>nU.out k e hk));have jg:=hid dT;clear gy dT cO dW q0;have gK:=hid (fun w6 at2 g6 o au hat hu hn=>fK.out nv2 (w7.setCell ⟨wr.heap.size,1,none⟩ (.int .i64 va)) w10 w6 at2 g6 o eD.out nf.out nk.out au hat hu hn);generalize (Bg gs _).1=pid at *;have bB:Hid (i+1<=maxLen):=hid (by unfold maxLen;omega);have bA:Hid ((i+1)*8<=140737488355328):=hid (by omega);have eE:Hid ((w10.alloc (.cells #[.int .i64 (pid:Int)] 3)).ownsRow w.heap.size 3 1 (.slice (some ⟨ga,0,none⟩) i c3) i (bw.map din)):=hid (Af jg.out (fun k _ hk=>Below.heap_alloc _ _ k hk));have cZ:=hid (BV w10 3 [.int .i64 (pid:Int)]);have cd:Hid (w.heap.size<=(w10.alloc (.cells #[.int .i64 (pid:Int)] 3)).heap.size):=hid (by simp;omega);go_wp2_with (at_builtin;go_must (refine wpList_append_lies _ rfl _ _ 41 rfl w.heap.size 3 i0 _ 1 8 Tryz.underlying41 xK aE hz1 bx rfl (by decide) (.slice (some ⟨ga,0,none⟩) i c3) i (bw.map din) rfl eE.out ⟨w10.heap.size,0,none⟩ 1 1 [.int .i64 (pid:Int)] rfl rfl cZ.out (by simp[Value.oneCell']) (by decide) bB.out bA.out cd.out _ rfl ?_;intro g6 c6 w6 bd cj cA fD;have fJ:Hid (Br w.heap.size w6 (.slice (some ⟨g6,0,none⟩) (i+1) c6) (i+1) (bw++[pid])):=hid (by unfold Br;rw[List.map_append];exact bd);have vh:=hid (gK.out w6 (.slice (some ⟨g6,0,none⟩) (i+1) c6) g6 _ cj cA rfl fJ.out);clear bd cj cA fD));go_roundw
    case rel=>exact⟨i+1,hlt,by go_num,vh.out⟩
    case measure=>simp[intOf];omega
   ·have i3:BO bw ⟨(k:Int),(j:Int),(jq:Int),0,[]⟩=⟨(k:Int),((bw.getD j 0:Nat):Int),((bw.getD jq 0:Nat):Int),0,[]⟩:=by
     unfold BO;rw[if_pos (by simp only;omega),if_pos (by simp only;omega)];rfl
    rw[i3]at bq fK;rw[CY hk]at fI;simp only at fI;have aO:=hid (fun W=>Bs W (k:Int));rw[fI.out]at aO;obtain⟨ga,rfl,fm,nh⟩:=kN.out j hj;obtain⟨gb,dc,_,vf⟩:=kN.out jq tU;obtain rfl:ga=gb:=by injection dc with dc;injection dc
    have rM:=hid nh;have zK:=hid vf;have ou:(j:Int)<(i:Int):=by omega
    have si:(0:Int)<=(j:Int):=by omega
    have XN:(jq:Int)<(i:Int):=by omega
    have XO:(0:Int)<=(jq:Int):=by omega
    clear i3 hk hj tU fI nh vf dc;generalize ((bw.getD j 0:Nat):Int)=va at *;generalize ((bw.getD jq 0:Nat):Int)=vb at *;simp only[ndV]at bq;simp only at y0 y1 y2 y3 y4;generalize hkk:(k:Int)=kk at *;obtain⟨s,hs⟩:∃s:ByteArray,s=⟨([]:List UInt8).toArray⟩:=⟨_,rfl⟩;have ac:str []= .string s:=by rw[hs];rfl
    rw[ac]at y4 bq;clear hs ac hkk;have dd:=hid (Blk.new wr 95 #[.int .i64 kk,.int .i64 (j:Int),.int .i64 (jq:Int),.int .i64 0,.string s]);have cU:=hid ((Ext.refl wr).alloc (.cells #[.int .i64 kk,.int .i64 (j:Int),.int .i64 (jq:Int),.int .i64 0,.string s] 95));obtain⟨w7,dN⟩:∃w7,w7=wr.alloc (.cells #[.int .i64 kk,.int .i64 (j:Int),.int .i64 (jq:Int),.int .i64 0,.string s] 95):=⟨_,rfl⟩;rw[<-dN]at dd cU;have q0:=dd.out.five;go_upto_region 8 with fail;rw[<-dN];clear dN y0 y1 y2 y3 y4;go_wp2_with fail;refine(aO.out _).mono ?_
    rintro r w8 ⟨rfl,rfl⟩;have v0:=(cU.out.cell fm).trans rM.out;have f1:=dd.out.frozen 1;have mW:=hid (dd.out.set_ 1 (.int .i64 va));have eD:=hid (cU.out.setCell (p:=⟨wr.heap.size,1,none⟩) (Nat.le_refl _) (.int .i64 va));have r0:=Blk.five mW.out;have v1:=(eD.out.cell fm).trans zK.out;have f2:=mW.out.frozen 2;have rB:=hid (Blk.set_ mW.out 2 (.int .i64 vb));have gF:=hid (eD.out.setCell (p:=⟨wr.heap.size,2,none⟩) (Nat.le_refl _) (.int .i64 vb));have t0:=Blk.five rB.out;go_wp2_with fail;refine(aO.out _).mono ?_
    rintro r w9 ⟨rfl,rfl⟩;go_wp2_with fail;refine(bq.out ((w7.setCell ⟨wr.heap.size,1,none⟩ (.int .i64 va)).setCell ⟨wr.heap.size,2,none⟩ (.int .i64 vb)) (ez.out.keep gF.out)).mono ?_
    rintro r w10 ⟨nv2,rfl,cO,dW⟩;have nf:=hid cO;have nk:=hid dW;have gy:=(KG.of_ext gF.out).trans cO;have gj:wr.heap.size<=w10.heap.size:=gy.size;have dT:Br w.heap.size w10 (.slice (some ⟨ga,0,none⟩) i c3) i bw:=B9 ip.out (fun k hk=>gy.block k (BE ip.out hk) (fun e=>by have:=(ip.out.blt k hk).1;omega) (fun e=>by have:=(ip.out.blt k hk).1;omega) (fun e=>nU.out k e hk));have jg:=hid dT;clear gy dT cO dW q0;have gK:=hid (fun w6 at2 g6 o au hat hu hn=>fK.out nv2 ((w7.setCell ⟨wr.heap.size,1,none⟩ (.int .i64 va)).setCell ⟨wr.heap.size,2,none⟩ (.int .i64 vb)) w10 w6 at2 g6 o gF.out nf.out nk.out au hat hu hn);generalize (Bg gs _).1=pid at *;have bB:Hid (i+1<=maxLen):=hid (by unfold maxLen;omega);have bA:Hid ((i+1)*8<=140737488355328):=hid (by omega);have eE:Hid ((w10.alloc (.cells #[.int .i64 (pid:Int)] 3)).ownsRow w.heap.size 3 1 (.slice (some ⟨ga,0,none⟩) i c3) i (bw.map din)):=hid (Af jg.out (fun k _ hk=>Below.heap_alloc _ _ k hk));have cZ:=hid (BV w10 3 [.int .i64 (pid:Int)]);have cd:Hid (w.heap.size<=(w10.alloc (.cells #[.int .i64 (pid:Int)] 3)).heap.size):=hid (by simp;omega);go_wp2_with (at_builtin;go_must (refine wpList_append_lies _ rfl _ _ 41 rfl w.heap.size 3 i0 _ 1 8 Tryz.underlying41 xK aE hz1 bx rfl (by decide) (.slice (some ⟨ga,0,none⟩) i c3) i (bw.map din) rfl eE.out ⟨w10.heap.size,0,none⟩ 1 1 [.int .i64 (pid:Int)] rfl rfl cZ.out (by simp[Value.oneCell']) (by decide) bB.out bA.out cd.out _ rfl ?_;intro g6 c6 w6 bd cj cA fD;have fJ:Hid (Br w.heap.size w6 (.slice (some ⟨g6,0,none⟩) (i+1) c6) (i+1) (bw++[pid])):=hid (by unfold Br;rw[List.map_append];exact bd);have vh:=hid (gK.out w6 (.slice (some ⟨g6,0,none⟩) (i+1) c6) g6 _ cj cA rfl fJ.out);clear bd cj cA fD));go_roundw
    case rel=>exact⟨i+1,hlt,by go_num,vh.out⟩
    case measure=>simp[intOf];omega
  ·obtain⟨bC,jO,au,a9,fc⟩:=aX;obtain⟨more,kA,mw⟩:=Kh e fM.out ns;have hin:i=n:=by omega
   rw[List.take_of_length_le (by rw[AE,<-HN.out];omega),mw]at au a9;simp only at au a9;obtain⟨gi,ci,rfl⟩:=a9.pos (by omega);have aa:=a9.get more.length (by have:=HN.out;omega);rw[Dd _ _ rfl]at aa;have uZ:=hid jO;have ez:=hid au;have lD:=hid aa;have rD:=hid kA;clear jO au a9 fc mw kA aa;go_wp2_with fail;go_ret2;exact⟨bC,gi,ci,more,by rw[hin];rfl,by rw[HN.out];exact rD.out,lD.out,uZ.out,ez.out⟩
def CB(a0 B g:Nat)(w:World)(L:Value)(l:List Int)(a:Nat):Prop:=BC B g w L l a/\a0<=a
section
variable {a0 B g:Nat} {w w':World} {L:Value} {l:List Int} {a:Nat}
theorem CB.lt(h:CB a0 B g w L l a):g<B:=h.1.lt
theorem CB.blk(h:CB a0 B g w L l a):Blk w g 129 #[L,.int .i64 (a:Int)]:=h.1.blk
theorem CB.arr(h:CB a0 B g w L l a):DV w L l:=h.1.arr
theorem CB.pos(h:CB a0 B g w L l a):a<=l.length:=h.1.pos
theorem CB.few(h:CB a0 B g w L l a):l.length<=1000000:=h.1.few
theorem CB.below(h:CB a0 B g w L l a)(hk:Below B w w'):CB a0 B g w' L l a:=⟨h.1.below hk,h.2⟩
theorem Gk(l:List Int)(a:Nat):a<=C6 l a:=by unfold C6;split<;>omega
end
theorem PK{a0:Nat}(B g:Nat)(w:World)(L:Value)(l:List Int)(a:Nat)(h:CB a0 B g w L l a):Calls Tryz.prog 76 #[.pointer (some ⟨g,0,none⟩)] w fun e w'=>e= .returned (.bool (decide (a<l.length)))/\Dr w w':=L2 B g w L l a h.1
theorem GP{a0:Nat}(B g:Nat)(w:World)(L:Value)(l:List Int)(a:Nat)(n:Int)(h:CB a0 B g w L l a)(hn:1<=n)(hn2:n<=4611686018427387904):Calls Tryz.prog 78 #[.pointer (some ⟨g,0,none⟩),.int .i64 n] w fun e w'=>e= .returned (.int .i64 (Ct l a n))/\CB a0 B g w' L l (C6 l a)/\(∀B',KB B' g w w'):=
 (Gi B g w L l a n h.1 hn hn2).mono fun _ _ ⟨h1,h2,h3⟩=>⟨h1,⟨h2,Nat.le_trans h.2 (Gk l a)⟩,h3⟩
theorem IJ{a0:Nat}(B g:Nat)(w:World)(L:Value)(l:List Int)(a:Nat)(lo hi:Int)(h:CB a0 B g w L l a)(h1:lo<=hi)(h2: -1000000<=lo)(h3:hi<=1000000):Calls Tryz.prog 77 #[.pointer (some ⟨g,0,none⟩),.int .i64 lo,.int .i64 hi] w fun e w'=>e= .returned (.int .i64 (lo+Ct l a (hi-lo+1)))/\CB a0 B g w' L l (C6 l a)/\(∀B',KB B' g w w'):=
 (JZ B g w L l a lo hi h.1 h1 h2 h3).mono fun _ _ ⟨p1,p2,p3⟩=>⟨p1,⟨p2,Nat.le_trans h.2 (Gk l a)⟩,p3⟩
theorem Ht{a0:Nat}(B g:Nat)(w:World)(L:Value)(l:List Int)(a:Nat)(h:CB a0 B g w L l a)(hB:B<=w.heap.size):Calls Tryz.prog 137 #[.pointer (some ⟨g,0,none⟩)] w fun e w'=>∃t,e= .returned (str t)/\AX t=0/\t.length<=5/\CB a0 B g w' L l (C6 l a)/\KB w.heap.size g w w':=
 (Ns B g w L l a h.1 hB).mono fun _ _ ⟨t,p0,p1,p2,p3,p4⟩=>⟨t,p0,p1,p2,⟨p3,Nat.le_trans h.2 (Gk l a)⟩,p4⟩
def Kq(a0 B g:Nat)(w:World)(L:Value)(l:List Int)(xs:List Nd)(d:Nat)(e:Ending)(w':World):Prop:=
 ∃(x:Ex) (v':Value) (a':Nat),e= .returned v'/\x.Good/\x.size+1<=2 ^ d/\x.depth<=d/\AB B w' v' (xs++Ah xs.length x)/\CB a0 B g w' L l a'/\KB B g w w'
theorem Py(a0 d:Nat):∀(B g:Nat) (w:World) (L:Value) (l:List Int) (a:Nat) (v:Value) (xs:List Nd) (cP:Bool) (D:Int),CB a0 B g w L l a->AB B w v xs->B<=w.heap.size->1<=d->D=(d:Int)->xs.length+2 ^ d<=100000->d<=1000->
  Calls Tryz.prog 75 #[.pointer (some ⟨g,0,none⟩),v,.int .i64 D,.bool cP] w (Kq a0 B g w L l xs d):=by
 induction d using Nat.strongRecOn with
 |_ d IH=>
 intro B g w L l a v xs cP D ht hv hB dE hD aB sn;have pJ:=hid IH;have HT:=hid ht;have HV:=hid hv;have HP:=hid aB;have sG:=hid hD;have VI:1<=D:=by omega
 have kC:=ht.lt;obtain⟨A0,c0,rfl⟩:=hv.shape;have ji:=hid (PK (a0:=a0) B g w L l a ht);have eU:=hid (fun W h=>GP (a0:=a0) B g W L l a 5 h (by decide) (by decide));have rl:=hid (fun W h=>IJ (a0:=a0) B g W L l a 1 16 h (by decide) (by decide) (by decide));have cG:=B7 (l:=l) (a:=a) (n:=5) (by decide);have tn:=B7 (l:=l) (a:=a) (n:=16-1+1) (by decide);have eX:=IP dE;obtain⟨i0,hi,aE,hz1,bx⟩:=info_parts Eo;have nA:xs.length<=100000:=by omega
 clear IH ht hv aB hD;generalize Ct l a 5=x5 at *;generalize Ct l a (16-1+1)=x16 at *;generalize C6 l a=a2 at *;go_enter Tryz.func75,Tryz.ntmps75;go_upto_region 1 with fail
 go_cut [23] from 12 to 23 (fun WA wx=>∃q:Bool,WA= .bool q/\Dr w wx/\(q=false->1<D/\xs.length<=24))
 case first=>
  by_cases hD1:D<=1
  ·have Ys:decide (D<=1)=true:=decide_eq_true hD1;go_wp2_with fail;go_meet;exact⟨true,rfl,Dr.refl w,fun h=>by cases h⟩
  ·have Ys:decide (D<=1)=false:=decide_eq_false hD1;by_cases hal:a<l.length
   ·have lf:decide (a<l.length)=true:=decide_eq_true hal;rw[lf]at ji;clear lf hal;go_wp2_with fail;refine ji.out.mono ?_
    rintro e w1 ⟨rfl,hd⟩;have iV:=hid hd;clear hd;go_wp2_with fail;go_meet;refine⟨_,rfl,iV.out,fun h=>⟨by omega,?_⟩⟩;have h2:=of_decide_eq_false h;omega
   ·have lf:decide (a<l.length)=false:=decide_eq_false hal;rw[lf]at ji;clear lf hal;go_wp2_with fail;refine ji.out.mono ?_
    rintro e w1 ⟨rfl,hd⟩;have iV:=hid hd;clear hd;go_wp2_with fail;go_meet;exact⟨true,rfl,iV.out,fun h=>by cases h⟩
 case rest=>
  obtain⟨q,rfl,hd,hq⟩:=hcut;clear ji;have HD:=hid hd;have lL:=hid (HT.out.below (hd.belowN B));have pw:=hid (HV.out.ext (hd.belowN w.heap.size));have pG:=hid ((KB.refl B g w).below (hd.belowN B));have po:B<=wc.heap.size:=by rw[hd.heap];exact hB
  clear hd hB;generalize wc=w1 at *;cases q
  ·obtain⟨Yr,pZ⟩:=hq rfl;obtain⟨m,rfl⟩:∃m,d=m+1:=⟨d-1,by omega⟩;have iD:1<=m:=by have:=sG.out;omega
   have qh:2 ^ (m+1)=2*2 ^ m:=by rw[Nat.pow_succ];omega
   have qi:=IP iD;have aB:=HP.out;have a5:IntKind.i64.wrap (D-1)=D-1:=by have:=sG.out;exact IntWalk.i64_in _ (by omega)
   obtain⟨K,hK⟩:∃K:Nat,(K:Int)=1+x16:=⟨(1+x16).toNat,by omega⟩;rw[<-hK]at rl;have VG:1<=K:=by omega
   have Yq:K<=16:=by omega
   have aO:=hid (fun W=>Bs W (K:Int));clear hq hK tn eU cG;have key:(Aq (K:Int)=0/\K<=4)\/(Aq (K:Int)=1/\(K=5\/(10<=K/\K<=16)))\/(Aq (K:Int)=2/\(6<=K/\K<=9)):=by
    unfold Aq
    repeat' split
    all_goals omega
   rcases key with ⟨aD,_⟩|⟨aD,vM⟩|⟨aD,vM⟩
   ·rw[aD]at aO;clear aD pZ;have HI:=hid (fun W h1 h2 h3=>pJ.out 1 (by omega) B g W L l a2 (.slice A0 xs.length c0) xs cP 1 h1 h2 h3 (by decide) rfl (by omega) (by decide));go_wp2_with fail;refine(rl.out _ lL.out).mono ?_
    rintro e w2 ⟨rfl,fQ,hk2⟩;have fU:=hid fQ;have fF:=hid (pw.out.kbx kC hk2);have ey:=hid (pG.out.trans (hk2 B));have fT:B<=w2.heap.size:=Nat.le_trans po (hk2 B).size;clear fQ hk2;go_wp2_with fail;refine(aO.out _).mono ?_
    rintro e w3 ⟨rfl,rfl⟩;go_wp2_with fail;refine(HI.out _ fU.out fF.out fT).mono ?_
    rintro e w4 al;obtain⟨x,v',a',rfl,hg,hs,gQ,ai,iP,hk⟩:=al;have HE:=hid (And.intro hg (And.intro hs (And.intro gQ (And.intro ai (And.intro iP hk)))));clear hg hs gQ ai iP hk;go_wp2_with fail;go_ret;obtain⟨hg,hs,gQ,ai,iP,hk⟩:=HE.out;exact⟨x,v',a',rfl,hg,Nat.le_trans hs eX,by omega,ai,iP,ey.out.trans hk⟩
   ·rw[aD]at aO;clear aD pZ;by_cases hK10:K=10
    ·subst hK10;rw[show ((10:Nat):Int)=10 from rfl]at aO rl;have rm:=hid (fun W h=>IJ (a0:=a0) B g W L l a2 (-3) 4 h (by decide) (by decide) (by decide));have cw:=B7 (l:=l) (a:=a2) (n:=4- -3+1) (by decide);have tG: -3≤-3+Ct l a2 (4- -3+1)∧-3+Ct l a2 (4- -3+1)<=4:=by omega
     generalize-3+Ct l a2 (4- -3+1)=nn at *;generalize C6 l a2=a3 at *;clear cw;go_wp2_with fail;refine(rl.out _ lL.out).mono ?_
     rintro e w2 ⟨rfl,fQ,hk2⟩;have fU:=hid fQ;have fF:=hid (pw.out.kbx kC hk2);have ey:=hid (pG.out.trans (hk2 B));have fT:B<=w2.heap.size:=Nat.le_trans po (hk2 B).size;clear fQ hk2;go_wp2_with fail;refine(aO.out _).mono ?_
     rintro e w3 ⟨rfl,rfl⟩;go_wp2_with fail;refine(rm.out _ fU.out).mono ?_
     rintro e w6 ⟨rfl,U0,iG⟩;have yX:=hid U0;have YZ:=hid (fF.out.kbx kC iG);have ff:=hid (ey.out.trans (iG B));have sx:B<=w6.heap.size:=Nat.le_trans fT (iG B).size;clear U0 iG;go_wp2_with fail;refine(pJ.out m (by omega) B g _ L l a3 (.slice A0 xs.length c0) (xs) cP (D-1) yX.out YZ.out sx iD (by have:=sG.out;omega) (by omega) (by omega)).mono ?_
     rintro e w7 al;obtain⟨x,v7,a7,rfl,hO,sc,jb,aW,iX,gx⟩:=al;obtain⟨A7,c7,n7,rfl,ky⟩:=aW.shape3;have lI:n7=xs.length+x.size:=by rw[ky,List.length_append,AE]
     have vR:Hid (w7.ownsRow B 95 5 (.slice A7 n7 c7) n7 (Bz (xs++Ah xs.length x))):=hid (by
      have h:=aW;unfold AB at h;rw[<-ky]at h;exact h)
     have lz:=hid lI;have uj:n7<=100000:=by omega
     have ui:1<=n7:=by have:=x.size_pos;omega
     have lp:=hid aW;have lu:=hid ky;have pA:=hid iX;have nS:=hid (And.intro hO jb);have iN:=hid (ff.out.trans gx);have sw:B<=w7.heap.size:=Nat.le_trans sx gx.size;clear hO jb aW iX gx ky lI;have dN:IntKind.i64.wrap ((n7:Int)-1)=(n7:Int)-1:=IntWalk.i64_in _ (by omega);have dA:Hid ((w7.alloc (.cells #[.int .i64 10,.int .i64 ((n7:Int)-1),.int .i64 0,.int .i64 nn,.string ⟨#[]⟩] 95)).ownsRow B 95 5 _ n7 (Bz (xs++Ah xs.length x))):=hid (Af vR.out (fun k _ hk=>Below.heap_alloc _ _ k hk));have cZ:=hid (BV w7 95 [.int .i64 10,.int .i64 ((n7:Int)-1),.int .i64 0,.int .i64 nn,.string ⟨#[]⟩]);have bB:Hid (n7+1<=maxLen):=hid (by unfold maxLen;omega);have bA:Hid ((n7+1)*48<=140737488355328):=hid (by omega);have cd:Hid (B<=(w7.alloc (.cells #[.int .i64 10,.int .i64 ((n7:Int)-1),.int .i64 0,.int .i64 nn,.string ⟨#[]⟩] 95)).heap.size):=hid (by simp;omega);go_wp2_with (at_builtin;go_must (refine wpList_append_own _ rfl _ _ 32 rfl B 95 i0 _ 5 48 Tryz.underlying32 hi aE hz1 bx rfl (by decide) _ n7 (Bz (xs++Ah xs.length x)) rfl dA.out ⟨w7.heap.size,0,none⟩ 1 1 [.int .i64 10,.int .i64 ((n7:Int)-1),.int .i64 0,.int .i64 nn,.string ⟨#[]⟩] rfl rfl cZ.out (by simp[Value.oneCell']) bB.out bA.out cd.out ?_;intro v' w' ai au _;have eb:=hid (Dm (nd:=⟨10,(n7:Int)-1,0,nn,[]⟩) lu.out _ lp.out sw ai au);obtain⟨A',c',rfl⟩:=Ap ai;clear ai au));go_wp2_with fail;go_ret;have lI:=lz.out;have tf:=x.size_pos;refine⟨.un 10 nn x,_,_,rfl,⟨vM,fun h=>absurd rfl h,by omega,by omega,nS.out.1⟩,by rw[Ex.size];omega,by rw[Ex.depth];have:=nS.out.2;omega,?_,pA.out.below eb.out.2,iN.out.below eb.out.2⟩;rw[Ah,<-List.append_assoc,show ((xs.length+x.size-1:Nat):Int)=(n7:Int)-1 by omega];exact eb.out.1
    ·have Z9:((K:Int) == 10)=false:=by rw[beq_eq_false_iff_ne];omega
     go_wp2_with fail;refine(rl.out _ lL.out).mono ?_
     rintro e w2 ⟨rfl,fQ,hk2⟩;have fU:=hid fQ;have fF:=hid (pw.out.kbx kC hk2);have ey:=hid (pG.out.trans (hk2 B));have fT:B<=w2.heap.size:=Nat.le_trans po (hk2 B).size;clear fQ hk2;go_wp2_with fail;refine(aO.out _).mono ?_
     rintro e w3 ⟨rfl,rfl⟩;have ff:=hid ey.out;have sx:=fT;go_wp2_with fail;refine(pJ.out m (by omega) B g _ L l a2 (.slice A0 xs.length c0) (xs) cP (D-1) fU.out fF.out fT iD (by have:=sG.out;omega) (by omega) (by omega)).mono ?_
     rintro e w7 al;obtain⟨x,v7,a7,rfl,hO,sc,jb,aW,iX,gx⟩:=al;obtain⟨A7,c7,n7,rfl,ky⟩:=aW.shape3;have lI:n7=xs.length+x.size:=by rw[ky,List.length_append,AE]
     have vR:Hid (w7.ownsRow B 95 5 (.slice A7 n7 c7) n7 (Bz (xs++Ah xs.length x))):=hid (by
      have h:=aW;unfold AB at h;rw[<-ky]at h;exact h)
     have lz:=hid lI;have uj:n7<=100000:=by omega
     have ui:1<=n7:=by have:=x.size_pos;omega
     have lp:=hid aW;have lu:=hid ky;have pA:=hid iX;have nS:=hid (And.intro hO jb);have iN:=hid (ff.out.trans gx);have sw:B<=w7.heap.size:=Nat.le_trans sx gx.size;clear hO jb aW iX gx ky lI;have dN:IntKind.i64.wrap ((n7:Int)-1)=(n7:Int)-1:=IntWalk.i64_in _ (by omega);have dA:Hid ((w7.alloc (.cells #[.int .i64 (K:Int),.int .i64 ((n7:Int)-1),.int .i64 0,.int .i64 0,.string ⟨#[]⟩] 95)).ownsRow B 95 5 _ n7 (Bz (xs++Ah xs.length x))):=hid (Af vR.out (fun k _ hk=>Below.heap_alloc _ _ k hk));have cZ:=hid (BV w7 95 [.int .i64 (K:Int),.int .i64 ((n7:Int)-1),.int .i64 0,.int .i64 0,.string ⟨#[]⟩]);have bB:Hid (n7+1<=maxLen):=hid (by unfold maxLen;omega);have bA:Hid ((n7+1)*48<=140737488355328):=hid (by omega);have cd:Hid (B<=(w7.alloc (.cells #[.int .i64 (K:Int),.int .i64 ((n7:Int)-1),.int .i64 0,.int .i64 0,.string ⟨#[]⟩] 95)).heap.size):=hid (by simp;omega);go_wp2_with (at_builtin;go_must (refine wpList_append_own _ rfl _ _ 32 rfl B 95 i0 _ 5 48 Tryz.underlying32 hi aE hz1 bx rfl (by decide) _ n7 (Bz (xs++Ah xs.length x)) rfl dA.out ⟨w7.heap.size,0,none⟩ 1 1 [.int .i64 (K:Int),.int .i64 ((n7:Int)-1),.int .i64 0,.int .i64 0,.string ⟨#[]⟩] rfl rfl cZ.out (by simp[Value.oneCell']) bB.out bA.out cd.out ?_;intro v' w' ai au _;have eb:=hid (Dm (nd:=⟨(K:Int),(n7:Int)-1,0,0,[]⟩) lu.out _ lp.out sw ai au);obtain⟨A',c',rfl⟩:=Ap ai;clear ai au));go_wp2_with fail;go_ret;have lI:=lz.out;have tf:=x.size_pos;refine⟨.un K 0 x,_,_,rfl,⟨vM,fun _=>rfl,by omega,by omega,nS.out.1⟩,by rw[Ex.size];omega,by rw[Ex.depth];have:=nS.out.2;omega,?_,pA.out.below eb.out.2,iN.out.below eb.out.2⟩;rw[Ah,<-List.append_assoc,show ((xs.length+x.size-1:Nat):Int)=(n7:Int)-1 by omega];exact eb.out.1
   ·rw[aD]at aO;clear aD pZ;go_wp2_with fail;refine(rl.out _ lL.out).mono ?_
    rintro e w2 ⟨rfl,fQ,hk2⟩;have fU:=hid fQ;have fF:=hid (pw.out.kbx kC hk2);have ey:=hid (pG.out.trans (hk2 B));have fT:B<=w2.heap.size:=Nat.le_trans po (hk2 B).size;clear fQ hk2;go_wp2_with fail;refine(aO.out _).mono ?_
    rintro e w3 ⟨rfl,rfl⟩;have ff:=hid ey.out;have sx:=fT;go_wp2_with fail;refine(pJ.out m (by omega) B g _ L l a2 (.slice A0 xs.length c0) (xs) cP (D-1) fU.out fF.out fT iD (by have:=sG.out;omega) (by omega) (by omega)).mono ?_
    rintro e w7 al;obtain⟨x,v7,a7,rfl,hO,sc,jb,aW,iX,gx⟩:=al;obtain⟨A7,c7,n7,rfl,ky⟩:=aW.shape3;have lI:n7=xs.length+x.size:=by rw[ky,List.length_append,AE]
    have vR:Hid (w7.ownsRow B 95 5 (.slice A7 n7 c7) n7 (Bz (xs++Ah xs.length x))):=hid (by
     have h:=aW;unfold AB at h;rw[<-ky]at h;exact h)
    have lz:=hid lI;have uj:n7<=100000:=by omega
    have ui:1<=n7:=by have:=x.size_pos;omega
    have lp:=hid aW;have lu:=hid ky;have pA:=hid iX;have nS:=hid (And.intro hO jb);have iN:=hid (ff.out.trans gx);have sw:B<=w7.heap.size:=Nat.le_trans sx gx.size;clear hO jb aW iX gx ky lI;have dN:IntKind.i64.wrap ((n7:Int)-1)=(n7:Int)-1:=IntWalk.i64_in _ (by omega);go_wp2_with fail;refine(pJ.out m (by omega) B g _ L l a7 (.slice A7 n7 c7) (xs++Ah xs.length x) cP (D-1) pA.out lp.out sw iD (by have:=sG.out;omega) (by rw[<-lu.out];have:=lz.out;omega) (by omega)).mono ?_
    rintro e w8 al;obtain⟨y,v8,a8,rfl,t3,ZZ,t8,kx,tc,dw⟩:=al;have yw:=lz.out;obtain⟨A8,c8,n8,rfl,tG⟩:=kx.shape3;have yv:n8=n7+y.size:=by rw[tG,List.length_append,AE,<-lu.out]
    have YX:Hid (w8.ownsRow B 95 5 (.slice A8 n8 c8) n8 (Bz ((xs++Ah xs.length x)++Ah (xs++Ah xs.length x).length y))):=hid (by
     have h:=kx;unfold AB at h;rw[<-tG]at h;exact h)
    have rG:=hid yv;have Yc:n8<=100000:=by omega
    have Yb:1<=n8:=by have:=y.size_pos;omega
    have uU:=hid kx;have mX:=hid tG;have Zd:=hid tc;have wg:=hid (And.intro t3 t8);have kj:=hid (iN.out.trans dw);have Yu:B<=w8.heap.size:=Nat.le_trans sw dw.size;clear t3 t8 kx tc dw tG yv yw;have ec:IntKind.i64.wrap ((n8:Int)-1)=(n8:Int)-1:=IntWalk.i64_in _ (by omega);have dA:Hid ((w8.alloc (.cells #[.int .i64 (K:Int),.int .i64 ((n7:Int)-1),.int .i64 ((n8:Int)-1),.int .i64 0,.string ⟨#[]⟩] 95)).ownsRow B 95 5 _ n8 (Bz ((xs++Ah xs.length x)++Ah (xs++Ah xs.length x).length y))):=hid (Af YX.out (fun k _ hk=>Below.heap_alloc _ _ k hk));have cZ:=hid (BV w8 95 [.int .i64 (K:Int),.int .i64 ((n7:Int)-1),.int .i64 ((n8:Int)-1),.int .i64 0,.string ⟨#[]⟩]);have bB:Hid (n8+1<=maxLen):=hid (by unfold maxLen;omega);have bA:Hid ((n8+1)*48<=140737488355328):=hid (by omega);have cd:Hid (B<=(w8.alloc (.cells #[.int .i64 (K:Int),.int .i64 ((n7:Int)-1),.int .i64 ((n8:Int)-1),.int .i64 0,.string ⟨#[]⟩] 95)).heap.size):=hid (by simp;omega);go_wp2_with (at_builtin;go_must (refine wpList_append_own _ rfl _ _ 32 rfl B 95 i0 _ 5 48 Tryz.underlying32 hi aE hz1 bx rfl (by decide) _ n8 (Bz ((xs++Ah xs.length x)++Ah (xs++Ah xs.length x).length y)) rfl dA.out ⟨w8.heap.size,0,none⟩ 1 1 [.int .i64 (K:Int),.int .i64 ((n7:Int)-1),.int .i64 ((n8:Int)-1),.int .i64 0,.string ⟨#[]⟩] rfl rfl cZ.out (by simp[Value.oneCell']) bB.out bA.out cd.out ?_;intro v' w' ai au _;have eb:=hid (Dm (nd:=⟨(K:Int),(n7:Int)-1,(n8:Int)-1,0,[]⟩) mX.out _ uU.out Yu ai au);obtain⟨A',c',rfl⟩:=Ap ai;clear ai au));go_wp2_with fail;go_ret;have lI:=lz.out;have yv:=rG.out;have tf:=x.size_pos;have Xd:=y.size_pos;refine⟨.bin K x y,_,_,rfl,⟨vM,nS.out.1,wg.out.1⟩,by rw[Ex.size];omega,by rw[Ex.depth];have:=nS.out.2;have:=wg.out.2;omega,?_,Zd.out.below eb.out.2,kj.out.below eb.out.2⟩;rw[Ah,show ((xs.length+x.size-1:Nat):Int)=(n7:Int)-1 by omega,show ((xs.length+x.size+y.size-1:Nat):Int)=(n8:Int)-1 by omega];have h9:=eb.out.1;rw[show (xs++Ah xs.length x).length=xs.length+x.size by rw[<-lu.out];exact lI]at h9;simp only[List.append_assoc]at h9 ⊢;exact h9
  ·clear hq pJ rl tn;obtain rfl|VN|Yw:x5=0\/(x5=1\/x5=2)\/(x5=3\/x5=4):=by omega
   ·go_wp2_with fail;refine(eU.out _ lL.out).mono ?_
    rintro e w2 ⟨rfl,fQ,hk2⟩;have fU:=hid fQ;have fF:=hid (pw.out.kbx kC hk2);have ey:=hid (pG.out.trans (hk2 B));have fT:B<=w2.heap.size:=Nat.le_trans po (hk2 B).size;clear fQ hk2;have kK:=hid (fun W h=>GP (a0:=a0) B g W L l a2 2 h (by decide) (by decide));have hr2:=B7 (l:=l) (a:=a2) (n:=2) (by decide);generalize Ct l a2 2=y at *;generalize C6 l a2=a3 at *;obtain rfl|rfl:y=0\/y=1:=by omega
    ·go_wp2_with fail;refine(kK.out _ fU.out).mono ?_
     rintro e w3 ⟨rfl,kv,dx⟩;have mO:=hid kv;have je:=hid (fF.out.kbx kC dx);have ea:=hid (ey.out.trans (dx B));have oD:B<=w3.heap.size:=Nat.le_trans fT (dx B).size;clear kv dx;have dA:Hid ((w3.alloc (.cells #[.int .i64 3,.int .i64 0,.int .i64 0,.int .i64 0,.string ⟨#[]⟩] 95)).ownsRow B 95 5 _ xs.length (Bz (xs))):=hid (Af je.out (fun k _ hk=>Below.heap_alloc _ _ k hk));have cZ:=hid (BV w3 95 [.int .i64 3,.int .i64 0,.int .i64 0,.int .i64 0,.string ⟨#[]⟩]);have bB:Hid (xs.length+1<=maxLen):=hid (by unfold maxLen;omega);have bA:Hid ((xs.length+1)*48<=140737488355328):=hid (by omega);have cd:Hid (B<=(w3.alloc (.cells #[.int .i64 3,.int .i64 0,.int .i64 0,.int .i64 0,.string ⟨#[]⟩] 95)).heap.size):=hid (by simp;omega);go_wp2_with (at_builtin;go_must (refine wpList_append_own _ rfl _ _ 32 rfl B 95 i0 _ 5 48 Tryz.underlying32 hi aE hz1 bx rfl (by decide) _ xs.length (Bz (xs)) rfl dA.out ⟨w3.heap.size,0,none⟩ 1 1 [.int .i64 3,.int .i64 0,.int .i64 0,.int .i64 0,.string ⟨#[]⟩] rfl rfl cZ.out (by simp[Value.oneCell']) bB.out bA.out cd.out ?_;intro v' w' ai au _;have eb:=hid (Dm (nd:=⟨3,0,0,0,[]⟩) rfl _ je.out oD ai au);obtain⟨A',c',rfl⟩:=Ap ai;clear ai au));go_wp2_with fail;go_ret;exact⟨.leaf 3 [],_,_,rfl,.inr (.inr ⟨by omega,rfl⟩),by rw[Ex.size];omega,dE,eb.out.1,mO.out.below eb.out.2,ea.out.below eb.out.2⟩
    ·go_wp2_with fail;refine(kK.out _ fU.out).mono ?_
     rintro e w3 ⟨rfl,kv,dx⟩;have mO:=hid kv;have je:=hid (fF.out.kbx kC dx);have ea:=hid (ey.out.trans (dx B));have oD:B<=w3.heap.size:=Nat.le_trans fT (dx B).size;clear kv dx;have dA:Hid ((w3.alloc (.cells #[.int .i64 4,.int .i64 0,.int .i64 0,.int .i64 0,.string ⟨#[]⟩] 95)).ownsRow B 95 5 _ xs.length (Bz (xs))):=hid (Af je.out (fun k _ hk=>Below.heap_alloc _ _ k hk));have cZ:=hid (BV w3 95 [.int .i64 4,.int .i64 0,.int .i64 0,.int .i64 0,.string ⟨#[]⟩]);have bB:Hid (xs.length+1<=maxLen):=hid (by unfold maxLen;omega);have bA:Hid ((xs.length+1)*48<=140737488355328):=hid (by omega);have cd:Hid (B<=(w3.alloc (.cells #[.int .i64 4,.int .i64 0,.int .i64 0,.int .i64 0,.string ⟨#[]⟩] 95)).heap.size):=hid (by simp;omega);go_wp2_with (at_builtin;go_must (refine wpList_append_own _ rfl _ _ 32 rfl B 95 i0 _ 5 48 Tryz.underlying32 hi aE hz1 bx rfl (by decide) _ xs.length (Bz (xs)) rfl dA.out ⟨w3.heap.size,0,none⟩ 1 1 [.int .i64 4,.int .i64 0,.int .i64 0,.int .i64 0,.string ⟨#[]⟩] rfl rfl cZ.out (by simp[Value.oneCell']) bB.out bA.out cd.out ?_;intro v' w' ai au _;have eb:=hid (Dm (nd:=⟨4,0,0,0,[]⟩) rfl _ je.out oD ai au);obtain⟨A',c',rfl⟩:=Ap ai;clear ai au));go_wp2_with fail;go_ret;exact⟨.leaf 4 [],_,_,rfl,.inr (.inr ⟨by omega,rfl⟩),by rw[Ex.size];omega,dE,eb.out.1,mO.out.below eb.out.2,ea.out.below eb.out.2⟩
   ·cases cP
    ·obtain rfl|rfl:=VN
     all_goals
      go_wp2_with fail;refine(eU.out _ lL.out).mono ?_
      rintro e w2 ⟨rfl,fQ,hk2⟩;have fU:=hid fQ;have fF:=hid (pw.out.kbx kC hk2);have ey:=hid (pG.out.trans (hk2 B));have fT:B<=w2.heap.size:=Nat.le_trans po (hk2 B).size;clear fQ hk2;have kK:=hid (fun W h=>GP (a0:=a0) B g W L l a2 5 h (by decide) (by decide));have hr2:=B7 (l:=l) (a:=a2) (n:=5) (by decide);obtain⟨t,nX,kR,Vh,jt⟩:=PG hr2.1 hr2.2;obtain⟨hy0,nY⟩:=hr2;have jk:=hid Vh;have yJ:=hid kR;generalize Ct l a2 5=y at *;generalize C6 l a2=a3 at *;clear Vh kR;go_wp2_with fail;refine(J7 _).mono ?_
      rintro e w4 ⟨rfl,mD,bD⟩;have fP:=hid mD;have bu:=hid bD;clear mD bD;go_wp2_with fail;refine(J7 _).mono ?_
      rintro e w5 ⟨rfl,_,hx5⟩;have gM:=hid (fP.out.ext hx5);have cW:=hid (bu.out.trans hx5);clear hx5;go_wp2_with fail;refine(kK.out _ (fU.out.below (Below.mono cW.out fT))).mono ?_
      rintro e w3 ⟨rfl,kv,dx⟩;have em:=fU.out.blk.lt;have vC:=((dx (w2.heap.size+1)).blk gM.out (by omega) (by omega)).cell y.toNat;rw[List.getElem?_toArray,List.getElem?_map,List.getElem?_eq_getElem nX]at vC;rw[yJ.out]at vC;have XI:w3.cell? ⟨w2.heap.size,y.toNat,none⟩=some (str t):=vC;have mO:=hid kv;have je:=hid ((fF.out.ext cW.out).kbx kC dx);have ea:=hid ((ey.out.ext cW.out fT).trans (dx B));have oD:B<=w3.heap.size:=Nat.le_trans fT (Nat.le_trans cW.out.size (dx B).size);clear kv dx vC em;have dA:Hid ((w3.alloc (.cells #[.int .i64 2,.int .i64 0,.int .i64 0,.int .i64 0,str t] 95)).ownsRow B 95 5 _ xs.length (Bz (xs))):=hid (Af je.out (fun k _ hk=>Below.heap_alloc _ _ k hk));have cZ:=hid (BV w3 95 [.int .i64 2,.int .i64 0,.int .i64 0,.int .i64 0,str t]);have bB:Hid (xs.length+1<=maxLen):=hid (by unfold maxLen;omega);have bA:Hid ((xs.length+1)*48<=140737488355328):=hid (by omega);have cd:Hid (B<=(w3.alloc (.cells #[.int .i64 2,.int .i64 0,.int .i64 0,.int .i64 0,str t] 95)).heap.size):=hid (by simp;omega);go_wp2_with (at_builtin;go_must (refine wpList_append_own _ rfl _ _ 32 rfl B 95 i0 _ 5 48 Tryz.underlying32 hi aE hz1 bx rfl (by decide) _ xs.length (Bz (xs)) rfl dA.out ⟨w3.heap.size,0,none⟩ 1 1 [.int .i64 2,.int .i64 0,.int .i64 0,.int .i64 0,str t] rfl rfl cZ.out (by simp[Value.oneCell',str]) bB.out bA.out cd.out ?_;intro v' w' ai au _;have eb:=hid (Dm (nd:=⟨2,0,0,0,t⟩) rfl _ je.out oD ai au);obtain⟨A',c',rfl⟩:=Ap ai;clear ai au));go_wp2_with fail;go_ret;exact⟨.leaf 2 t,_,_,rfl,.inr (.inl ⟨rfl,jk.out⟩),by rw[Ex.size];omega,dE,eb.out.1,mO.out.below eb.out.2,ea.out.below eb.out.2⟩
    ·obtain rfl|rfl:=VN
     all_goals
      go_wp2_with fail;refine(eU.out _ lL.out).mono ?_
      rintro e w2 ⟨rfl,fQ,hk2⟩;have fU:=hid fQ;have fF:=hid (pw.out.kbx kC hk2);have ey:=hid (pG.out.trans (hk2 B));have fT:B<=w2.heap.size:=Nat.le_trans po (hk2 B).size;clear fQ hk2;go_wp2_with fail;refine(Ht (a0:=a0) B g _ L l a2 fU.out fT).mono ?_
      rintro e w3 ⟨t,rfl,ud,jt,kv,dx⟩;have jk:=hid (And.intro ud jt);clear ud jt;have mO:=hid kv;have je:=hid (fF.out.kbs kC dx);have ea:=hid (ey.out.trans (dx.mono fT));have oD:B<=w3.heap.size:=Nat.le_trans fT dx.size;clear kv dx;have dA:Hid ((w3.alloc (.cells #[.int .i64 1,.int .i64 0,.int .i64 0,.int .i64 0,str t] 95)).ownsRow B 95 5 _ xs.length (Bz (xs))):=hid (Af je.out (fun k _ hk=>Below.heap_alloc _ _ k hk));have cZ:=hid (BV w3 95 [.int .i64 1,.int .i64 0,.int .i64 0,.int .i64 0,str t]);have bB:Hid (xs.length+1<=maxLen):=hid (by unfold maxLen;omega);have bA:Hid ((xs.length+1)*48<=140737488355328):=hid (by omega);have cd:Hid (B<=(w3.alloc (.cells #[.int .i64 1,.int .i64 0,.int .i64 0,.int .i64 0,str t] 95)).heap.size):=hid (by simp;omega);go_wp2_with (at_builtin;go_must (refine wpList_append_own _ rfl _ _ 32 rfl B 95 i0 _ 5 48 Tryz.underlying32 hi aE hz1 bx rfl (by decide) _ xs.length (Bz (xs)) rfl dA.out ⟨w3.heap.size,0,none⟩ 1 1 [.int .i64 1,.int .i64 0,.int .i64 0,.int .i64 0,str t] rfl rfl cZ.out (by simp[Value.oneCell',str]) bB.out bA.out cd.out ?_;intro v' w' ai au _;have eb:=hid (Dm (nd:=⟨1,0,0,0,t⟩) rfl _ je.out oD ai au);obtain⟨A',c',rfl⟩:=Ap ai;clear ai au));go_wp2_with fail;go_ret;exact⟨.leaf 1 t,_,_,rfl,.inl ⟨rfl,jk.out.1,Nat.le_trans jk.out.2 (by decide)⟩,by rw[Ex.size];omega,dE,eb.out.1,mO.out.below eb.out.2,ea.out.below eb.out.2⟩
   ·obtain rfl|rfl:=Yw
    all_goals
     go_wp2_with fail;refine(eU.out _ lL.out).mono ?_
     rintro e w2 ⟨rfl,fQ,hk2⟩;have fU:=hid fQ;have fF:=hid (pw.out.kbx kC hk2);have ey:=hid (pG.out.trans (hk2 B));have fT:B<=w2.heap.size:=Nat.le_trans po (hk2 B).size;clear fQ hk2;go_wp2_with fail;refine(Ht (a0:=a0) B g _ L l a2 fU.out fT).mono ?_
     rintro e w3 ⟨t,rfl,ud,jt,kv,dx⟩;have jk:=hid (And.intro ud jt);clear ud jt;have mO:=hid kv;have je:=hid (fF.out.kbs kC dx);have ea:=hid (ey.out.trans (dx.mono fT));have oD:B<=w3.heap.size:=Nat.le_trans fT dx.size;clear kv dx;have dA:Hid ((w3.alloc (.cells #[.int .i64 1,.int .i64 0,.int .i64 0,.int .i64 0,str t] 95)).ownsRow B 95 5 _ xs.length (Bz (xs))):=hid (Af je.out (fun k _ hk=>Below.heap_alloc _ _ k hk));have cZ:=hid (BV w3 95 [.int .i64 1,.int .i64 0,.int .i64 0,.int .i64 0,str t]);have bB:Hid (xs.length+1<=maxLen):=hid (by unfold maxLen;omega);have bA:Hid ((xs.length+1)*48<=140737488355328):=hid (by omega);have cd:Hid (B<=(w3.alloc (.cells #[.int .i64 1,.int .i64 0,.int .i64 0,.int .i64 0,str t] 95)).heap.size):=hid (by simp;omega);go_wp2_with (at_builtin;go_must (refine wpList_append_own _ rfl _ _ 32 rfl B 95 i0 _ 5 48 Tryz.underlying32 hi aE hz1 bx rfl (by decide) _ xs.length (Bz (xs)) rfl dA.out ⟨w3.heap.size,0,none⟩ 1 1 [.int .i64 1,.int .i64 0,.int .i64 0,.int .i64 0,str t] rfl rfl cZ.out (by simp[Value.oneCell',str]) bB.out bA.out cd.out ?_;intro v' w' ai au _;have eb:=hid (Dm (nd:=⟨1,0,0,0,t⟩) rfl _ je.out oD ai au);obtain⟨A',c',rfl⟩:=Ap ai;clear ai au));go_wp2_with fail;go_ret;exact⟨.leaf 1 t,_,_,rfl,.inl ⟨rfl,jk.out.1,Nat.le_trans jk.out.2 (by decide)⟩,by rw[Ex.size];omega,dE,eb.out.1,mO.out.below eb.out.2,ea.out.below eb.out.2⟩
theorem Kj(d g:Nat)(w:World)(L:Value)(l:List Int)(a:Nat)(cP:Bool)(h:BC w.heap.size g w L l a)(hd:1<=d)(ed:d<=16):Calls Tryz.prog 22 #[.pointer (some ⟨g,0,none⟩),.int .i64 (d:Int),.bool cP] w (Kq a w.heap.size g w L l [] d):=by
 have hp:2 ^ d<=2 ^ 16:=Nat.pow_le_pow_right (by omega) ed;have HP:=hid (Py a d w.heap.size g w L l a (.slice none 0 0) [] cP (d:Int) ⟨h,Nat.le_refl a⟩ (AB.nil _ w) (Nat.le_refl _) hd rfl (by simp;omega) (by omega));clear h hp;go_enter Tryz.func22,Tryz.ntmps22;go_wp2_with fail;refine HP.out.mono ?_
 rintro e w2 ⟨x,v',a',rfl,h1,h2,h3,h4,h5,h6⟩;have HE:=hid (And.intro h1 (And.intro h2 (And.intro h3 (And.intro h4 (And.intro h5 h6)))));clear h1 h2 h3 h4 h5 h6;go_wp2_with fail;go_ret;obtain⟨h1,h2,h3,h4,h5,h6⟩:=HE.out;exact⟨x,v',a',rfl,h1,h2,h3,h4,h5,h6⟩
def MG(B g:Nat)(ns:List Nd)(rv:Value)(e:Ex)(w:World)(r:Ending)(w':World):Prop:=
 ∃rv',r= .returned (.tuple #[.int .i64 ((Ba ns e).1:Int),.int .i64 0])/\KG g g rv rv' w w'/\GrR B g w' (Ba ns e).2 rv'
theorem LH(B g:Nat)(w:World)(ns:List Nd)(rv v:Value)(e:Ex)(h:GrR B g w ns rv)(hv:CD g g rv w v (Ah 0 e))(hJ:e.Good)(cB:e.size<=200)(gQ:e.depth<=40)(cn:ns.length+e.size<=4096):
  Calls Tryz.prog 25 #[.pointer (some ⟨g,0,none⟩),v] w (MG B g ns rv e w):=by
 have Zs:=hid (QY B g w ns rv v e h hv hJ cB gQ cn);obtain⟨A1,c1,rfl,_⟩:=hv;clear h hJ gQ cn;go_enter Tryz.func25,Tryz.ntmps25;go_wp2_with fail;refine Zs.out.mono ?_
 rintro r w1 ⟨rv',gi,ci,more,rfl,hm,hc,hk,hg⟩;rw[<-hm]at cB ⊢;have HK:=hid hk;have HG:=hid hg;clear hm hk hg;obtain⟨kz,Vg⟩:∃kz,kz=more.length:=⟨_,rfl⟩;rw[<-Vg]at cB hc ⊢;clear Vg;have hz1:IntKind.i64.wrap (((kz+1:Nat):Int)-1)=(kz:Int):=by rw[IntWalk.i64_in _ (by omega)];omega
 have bx:IntKind.i64.wrap ((kz:Int)+1-1)=(kz:Int):=by rw[IntWalk.i64_in _ (by omega)];omega
 have oX:IntKind.i64.wrap (kz:Int)=(kz:Int):=IntWalk.i64_in _ (by omega);have sN:(kz:Int)<(kz:Int)+1:=by omega
 have wH:(0:Int)<=(kz:Int):=by omega
 generalize hpid:(Ba ns e).1=pid at *;have rq:=hid hpid;clear hpid;go_wp2_with fail;go_ret2;exact⟨rv',by rw[rq.out];rfl,HK.out,HG.out⟩
def Qx(w:World)(g:Nat):Nat:=match w.cell? ⟨g,1,none⟩ with
 |some (.int _ n)=>n.toNat
 |_=>0
theorem BC.place{B g:Nat}{w:World}{L:Value}{l:List Int}{a:Nat}(h:BC B g w L l a):Qx w g=a:=by
 unfold Qx;rw[h.blk.cell 1];simp
theorem GrR.kb{B g tg:Nat}{w w':World}{ns:List Nd}{rv:Value}(h:GrR B g w ns rv)(ht:tg<B)(hk:KB w.heap.size tg w w'):GrR B g w' ns rv:=
 ⟨(hk.block g h.lt (by have:=h.lo;omega)).trans h.blk,h.row.kbs ht hk,h.lo,h.ok,h.few⟩
theorem Ny(w:World)(v:Value)(l:List Int)(h:DV w v l)(hn:l.length<=1000000):
  Calls Tryz.prog 24 #[v] w fun e w'=>∃g ns rv,e= .returned (.pointer (some ⟨g,0,none⟩))/\GrR (w.heap.size+1) g w' ns rv/\ns.length<=75/\Ext w w':=by
 have oJ:=hid (Og w v l h hn);obtain⟨A0,c0,rfl,xP,xO,xN⟩:=h.open;clear h xP xO xN;go_enter Tryz.func24,Tryz.ntmps24;go_wp2_with fail;refine oJ.out.mono ?_
 rintro e w1 ⟨rfl,ht,hx,hs⟩;have pB:=hid ht;have ar:=hid hx;have ag:=hid (Blk.new w1 71 #[.slice none 0 0]);have jJ:=hs;obtain⟨tg,te⟩:∃tg,tg=w.heap.size:=⟨_,rfl⟩;obtain⟨g,hg⟩:∃g,g=w1.heap.size:=⟨_,rfl⟩;rw[<-hg]at ag;rw[<-te]at pB ⊢;rw[<-hg,<-te]at jJ;have HGS:=hid hg;have cY:=hid te;have lJ:=hid jJ;clear oJ ht hx hs;go_upto_region 3 with fail;rw[<-hg,<-te];have aP:=hid (ar.out.alloc (.cells #[.slice none 0 0] 71));have fU:=hid (pB.out.below (Below.alloc (Below.refl (tg+1) w1) (by omega) (.cells #[.slice none 0 0] 71)));obtain⟨w2,ck⟩:∃w2,w2=w1.alloc (.cells #[.slice none 0 0] 71):=⟨_,rfl⟩;rw[<-ck]at aP ag fU;rw[<-ck];clear ck;have jD:Hid (GrR (tg+1) g w2 [] (.slice none 0 0)):=hid ⟨ag.out,AB.nil _ _,by omega,AC.nil,by decide⟩;clear hg te jJ pB ar;go_loopw [9] (fun _ wr=>∃a ns rv,BC (tg+1) tg wr (.slice A0 l.length c0) l a/\GrR (tg+1) g wr ns rv/\ns.length<=75/\Ext w wr) (fun _ wr=>l.length-Qx wr tg)
 case atStart=>exact⟨0,[],_,fU.out,jD.out,by decide,aP.out⟩
 case round=>
  obtain⟨a,ns,rv,ht,au,vA,hx⟩:=hrel;have HT:=hid ht;have HG:=hid au;have HX:=hid hx;have co:=hid ht.place;have rD:=hid (L2 (tg+1) tg wr (.slice A0 l.length c0) l a ht);obtain⟨A,c,rfl⟩:=au.row.shape;have k0:=au.blk.oneG;have UT:=hx.size;clear ht au hx;by_cases hal:a<l.length
  ·rw[decide_eq_true hal]at rD;by_cases hn60:ns.length<60
   ·have xY:decide ((ns.length:Int)<60)=true:=decide_eq_true (by omega);have Vc:(ns.length:Int)<60:=by omega
    have dP:=B7 (l:=l) (a:=a) (n:=4-1+1) (by decide);have jy:=hid (fun W h=>JZ (tg+1) tg W (.slice A0 l.length c0) l a 1 4 h (by decide) (by decide) (by decide));have fK:=hid (fun W h=>Gi (tg+1) tg W (.slice A0 l.length c0) l (C6 l a) 2 h (by decide) (by decide));have jv:C6 l a=a+1:=by unfold C6;rw[if_pos hal]
    rw[jv]at jy fK;have oq:=Gk l (a+1);generalize C6 l (a+1)=a2 at *;obtain⟨K,hK⟩:∃K:Nat,(K:Int)=1+Ct l a (4-1+1):=⟨(1+Ct l a (4-1+1)).toNat,by omega⟩;rw[<-hK]at jy;have VG:1<=K:=by omega
    have Yp:K<=4:=by omega
    clear hK dP jv;obtain⟨bb,dZ⟩:∃bb:Bool,bb=(Ct l (a+1) 2 == 0):=⟨_,rfl⟩;generalize Ct l (a+1) 2=y2 at *;go_wp2_with fail;refine rD.out.mono ?_
    rintro e w3 ⟨rfl,hd⟩;have mO:=hid (HT.out.below (hd.belowN _));have jk:=hid (HG.out.keep hd.ext);have ay:=hid (HX.out.trans hd.ext);have vr:=hd.ext.size;have k0:=jk.out.blk.oneG;clear hd;go_wp2_with fail;refine(jy.out _ mO.out).mono ?_
    rintro e w4 ⟨rfl,U2,dJ⟩;have Ze:=hid U2;have rN:=hid (jk.out.kb (by have q1:=cY.out;have q2:=lJ.out;omega) (dJ _));have bu:=hid ((dJ w3.heap.size).to_ext ay.out (by have q1:=cY.out;have q2:=lJ.out;omega) (by have q1:=cY.out;have q2:=lJ.out;omega));have Z0:=(dJ 0).size;clear U2 dJ;go_wp2_with fail;refine(fK.out _ Ze.out).mono ?_
    rintro e w5 ⟨rfl,U1,i5⟩;have V1:=hid U1;have pK:=hid (rN.out.kb (by have q1:=cY.out;have q2:=lJ.out;omega) (i5 _));have cW:=hid ((i5 w4.heap.size).to_ext bu.out (by have q1:=cY.out;have q2:=lJ.out;omega) (by have q1:=cY.out;have q2:=lJ.out;omega));have wZ:=(i5 0).size;clear U1 i5;go_wp2_with fail;rw[<-dZ];refine(Kj K tg w5 (.slice A0 l.length c0) l a2 bb (V1.out.mono (by have q1:=cY.out;have q2:=lJ.out;omega)) VG (by omega)).mono ?_
    rintro e w6 ⟨x,v6,a6,rfl,hJ,cB,gQ,ai,iP,hk⟩;rw[List.nil_append]at ai;have Xp:2 ^ K<=2 ^ 4:=Nat.pow_le_pow_right (by omega) Yp;have ZX:x.size<=15:=by omega
    have Wf:=hid (CD.newR ai pK.out);have We:=hid (pK.out.kb (by have q1:=cY.out;have q2:=lJ.out;omega) hk);have cV:=hid (hk.to_ext cW.out (by have q1:=cY.out;have q2:=lJ.out;omega) (by have q1:=cY.out;have q2:=lJ.out;omega));have yX:Hid (BC (tg+1) tg w6 (.slice A0 l.length c0) l a6):=hid (V1.out.kb (hk.mono (by have q1:=cY.out;have q2:=lJ.out;omega)) iP.1.blk iP.1.pos);have XH:=iP.2;clear ai iP hk Xp cB;obtain⟨A6,c6,rfl,_⟩:=Wf.out;have aB:=MB x ns;go_wp2_with fail;refine(LH (tg+1) g w6 ns _ _ x We.out Wf.out hJ (by omega) (by omega) (by omega)).mono ?_
    rintro r w7 ⟨rv7,rfl,gx,hO⟩;have gV:=hid (gx.belowR We.out);have nS:=hid hO;have pA:=hid (yX.out.below gV.out);clear gx hO;go_wp2_with fail;go_roundw
    case rel=>exact⟨a6,_,rv7,pA.out,nS.out,by omega,cV.out.more (Below.mono gV.out (by have q1:=cY.out;have q2:=lJ.out;omega))⟩
    case measure=>
     rw[pA.out.place,co.out];omega
   ·have xY:decide ((ns.length:Int)<60)=false:=decide_eq_false (by omega);go_wp2_with fail;refine rD.out.mono ?_
    rintro e w3 ⟨rfl,hd⟩;have jk:=hid (HG.out.keep hd.ext);have ay:=hid (HX.out.trans hd.ext);have k0:=jk.out.blk.oneG;clear hd;go_wp2_with fail;go_ret;exact⟨g,ns,_,rfl,by rw[<-cY.out];exact jk.out,vA,ay.out⟩
  ·rw[decide_eq_false hal]at rD;go_wp2_with fail;refine rD.out.mono ?_
   rintro e w3 ⟨rfl,hd⟩;have jk:=hid (HG.out.keep hd.ext);have ay:=hid (HX.out.trans hd.ext);clear hd;go_wp2_with fail;go_ret;exact⟨g,ns,_,rfl,by rw[<-cY.out];exact jk.out,vA,ay.out⟩
end Big
end Go.Proofs.YtkoaogkknnelaaaGreatDoor
