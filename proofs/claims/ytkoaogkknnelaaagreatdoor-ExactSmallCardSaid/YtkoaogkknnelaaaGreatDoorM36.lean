import Derived.Test.YtkoaogkknnelaaaGreatDoorM35
set_option linter.unusedVariables false
set_option linter.unusedSimpArgs false
set_option maxHeartbeats 8000000
set_option maxRecDepth 100000
namespace Go.Proofs.YtkoaogkknnelaaaGreatDoor
namespace Big
open Lib (hid)
open Go.RowKit
def GN(x:Nd)(ns:List Nd):Int:=if x∈ns then (Cv x ns:Int) else-1
theorem Sm{x:Nd}{ns:List Nd}{i:Nat}(hi:i<ns.length)(hx:ns[i]=x)(h:∀j (hj:j<ns.length),j<i->ns[j]≠x):GN x ns=(i:Int):=by
 unfold GN;rw[if_pos (by rw[<-hx];exact List.getElem_mem hi),Lc hi hx h]
theorem Qj{x:Nd}{ns:List Nd}(h:∀j (hj:j<ns.length),j<ns.length->ns[j]≠x):GN x ns= -1:=by
 unfold GN;rw[if_neg];intro hm;obtain⟨j,hj,he⟩:=List.getElem_of_mem hm;exact h j hj hj he
theorem Tz{x:Nd}{ns:List Nd}{i:Nat}(hi:i<ns.length)(h:∀j (hj:j<ns.length),j<i->ns[j]≠x)(hx:ns[i]≠x):∀j (hj:j<ns.length),j<i+1->ns[j]≠x:=by
 intro j hj xi;rcases Nat.lt_or_ge j i with h1|h1
 ·exact h j hj h1
 ·obtain rfl:j=i:=by omega
  exact hx
theorem Km(B g:Nat)(w:World)(ns:List Nd)(rv:Value)(h:GrR B g w ns rv)(x:Nd):
  Calls Tryz.prog 181 #[.pointer (some ⟨g,0,none⟩),ndV x] w fun e w'=>e= .returned (.int .i64 (GN x ns))/\Ext w w':=by
 have jN:=hid (fun i hi hx h=>Sm (x:=x) (ns:=ns) (i:=i) hi hx h);have gG:=hid (fun h=>Qj (x:=x) (ns:=ns) h);have HON:=hid (fun i hi h hx=>Tz (x:=x) (ns:=ns) (i:=i) hi h hx);have eX:=h.few;obtain⟨A,c,yF,lG⟩:=h.row.read;subst yF;have mC:=hid lG;have HG:=hid h;obtain⟨z0,z1,z2,z3,z4⟩:=x;simp only[ndV];obtain⟨tz,rn⟩:∃tz:ByteArray,tz=⟨z4.toArray⟩:=⟨_,rfl⟩;have hst:str z4= .string tz:=by rw[rn];rfl
 rw[hst];have Xc:tz.toList=z4:=by rw[rn];exact ByteArray.toList_mk _
 have qE:=hid Xc;clear hst Xc lG h rn;have ai:=hid (Blk.new w 95 #[.int .i64 z0,.int .i64 z1,.int .i64 z2,.int .i64 z3,.string tz]);have ar:=hid ((Ext.refl w).alloc (.cells #[.int .i64 z0,.int .i64 z1,.int .i64 z2,.int .i64 z3,.string tz] 95));obtain⟨w1,aZ⟩:∃w1,w1=w.alloc (.cells #[.int .i64 z0,.int .i64 z1,.int .i64 z2,.int .i64 z3,.string tz] 95):=⟨_,rfl⟩;rw[<-aZ]at ai ar;obtain⟨n,hJ⟩:∃n,n=ns.length:=⟨_,rfl⟩;have HN:=hid hJ;rw[<-hJ]at eX;rw[<-hJ]at HG;have mM:=(HG.out.keep ar.out).blk.cell 0;go_enter Tryz.func181,Tryz.ntmps181;go_upto_region 1 with fail;rw[<-aZ];clear aZ hJ;obtain⟨k0,_,er⟩:=(HG.out.keep ar.out).blk.oneG;clear mM;go_wp2_with fail;go_loopw [12] (fun x6 wr=>∃i:Nat,i<=n/\x6= .int .i64 (i:Int)/\Hid (∀j (hj:j<ns.length),j<i->ns[j]≠⟨z0,z1,z2,z3,z4⟩)/\Ext w1 wr) (fun x6 _=>n-(intOf x6).toNat)
 case atStart=>exact⟨0,Nat.zero_le _,rfl,hid (fun j _ hj=>by omega),Ext.refl w1⟩
 case round=>
  obtain⟨i,hi,rfl,mX,hx⟩:=hrel;have HX:=hid hx;have p7:IntKind.i64.wrap ((i:Int)+1)=(i:Int)+1:=IntWalk.i64_in _ (by omega);by_cases hlt:i<n
  ·have hit:i<ns.length:=by rw[<-HN.out];exact hlt
   obtain⟨gb,o,rfl,fD,hc⟩:=mC.out (by have:=HN.out;omega);obtain⟨p0,p1,p2,p3,p4⟩:=hc i hit;have aH:=ar.out.trans hx;rw[<-aH.cell fD]at p0 p1 p2 p3 p4;have aQ:gb<wr.heap.size:=Nat.lt_of_lt_of_le fD aH.size;have bG:=hid (fun he=>jN.out i hit he mX.out);have iq:=hid (fun he=>HON.out i hit mX.out he);have aB:(0:Int)<=(i:Int):=by omega
   have kA:(i:Int)<(n:Int):=by omega
   clear hc aH hx;generalize ns[i]=x at *;clear hit;obtain⟨y0,y1,y2,y3,y4⟩:=x;simp only at p0 p1 p2 p3 p4;have nl:str y4= .string ⟨y4.toArray⟩:=rfl;rw[nl]at p4;have Xd:(⟨y4.toArray⟩:ByteArray).toList=y4:=ByteArray.toList_mk _;have VM:=hid Xd;clear nl Xd;have Yb:=hid (Blk.new wr 95 #[.int .i64 y0,.int .i64 y1,.int .i64 y2,.int .i64 y3,.string ⟨y4.toArray⟩]);have Ya:=hid ((Ext.refl wr).alloc (.cells #[.int .i64 y0,.int .i64 y1,.int .i64 y2,.int .i64 y3,.string ⟨y4.toArray⟩] 95));obtain⟨wy,yp⟩:∃wy,wy=wr.alloc (.cells #[.int .i64 y0,.int .i64 y1,.int .i64 y2,.int .i64 y3,.string ⟨y4.toArray⟩] 95):=⟨_,rfl⟩;rw[<-yp]at Yb Ya;go_upto_region 4 with fail;rw[<-yp];clear yp p0 p1 p2 p3 p4;have sP:=hid (HX.out.trans Ya.out);have q0:=(ai.out.ext sP.out).five;have r0:=Yb.out.five;by_cases e0:y0=z0
   case neg=>
    have b0:(y0 == z0)=false:=by rw[beq_eq_false_iff_ne];exact e0
    have c0:(y0 != z0)=true:=by rw[bne_iff_ne];exact e0
    have ez:=hid (iq.out (fun he=>e0 (by injection he)));clear e0 bG iq;generalize (⟨y4.toArray⟩:ByteArray)=ty at *;go_wp2_with fail;go_roundw
    case rel=>exact⟨i+1,by omega,by go_num,ez.out,sP.out⟩
    case measure=>simp[intOf];omega
   case pos=>
    subst e0;by_cases e1:y1=z1
    case neg=>
     have b1:(y1 == z1)=false:=by rw[beq_eq_false_iff_ne];exact e1
     have c1:(y1 != z1)=true:=by rw[bne_iff_ne];exact e1
     have ez:=hid (iq.out (fun he=>e1 (by injection he)));clear e1 bG iq;generalize (⟨y4.toArray⟩:ByteArray)=ty at *;go_wp2_with fail;go_roundw
     case rel=>exact⟨i+1,by omega,by go_num,ez.out,sP.out⟩
     case measure=>simp[intOf];omega
    case pos=>
     subst e1;by_cases e2:y2=z2
     case neg=>
      have b2:(y2 == z2)=false:=by rw[beq_eq_false_iff_ne];exact e2
      have c2:(y2 != z2)=true:=by rw[bne_iff_ne];exact e2
      have ez:=hid (iq.out (fun he=>e2 (by injection he)));clear e2 bG iq;generalize (⟨y4.toArray⟩:ByteArray)=ty at *;go_wp2_with fail;go_roundw
      case rel=>exact⟨i+1,by omega,by go_num,ez.out,sP.out⟩
      case measure=>simp[intOf];omega
     case pos=>
      subst e2;by_cases e3:y3=z3
      case neg=>
       have b3:(y3 == z3)=false:=by rw[beq_eq_false_iff_ne];exact e3
       have c3:(y3 != z3)=true:=by rw[bne_iff_ne];exact e3
       have ez:=hid (iq.out (fun he=>e3 (by injection he)));clear e3 bG iq;generalize (⟨y4.toArray⟩:ByteArray)=ty at *;go_wp2_with fail;go_roundw
       case rel=>exact⟨i+1,by omega,by go_num,ez.out,sP.out⟩
       case measure=>simp[intOf];omega
      case pos=>
       subst e3;by_cases e4:y4=z4
       case neg=>
        have b4:((⟨y4.toArray⟩:ByteArray).toList == (tz:ByteArray).toList)=false:=by rw[VM.out,qE.out,beq_eq_false_iff_ne];exact e4
        have c4:((⟨y4.toArray⟩:ByteArray).toList != (tz:ByteArray).toList)=true:=by rw[VM.out,qE.out,bne_iff_ne];exact e4
        have ez:=hid (iq.out (fun he=>e4 (by injection he)));clear e4 bG iq;generalize (⟨y4.toArray⟩:ByteArray)=ty at *;go_wp2_with fail;go_roundw
        case rel=>exact⟨i+1,by omega,by go_num,ez.out,sP.out⟩
        case measure=>simp[intOf];omega
       case pos=>
        subst e4;have b4:((⟨y4.toArray⟩:ByteArray).toList == (tz:ByteArray).toList)=true:=by rw[VM.out,qE.out,beq_self_eq_true]
        have lc:=hid (bG.out rfl);generalize (⟨y4.toArray⟩:ByteArray)=ty at *;clear bG iq;go_wp2_with fail;go_ret;exact⟨by rw[lc.out];rfl,ar.out.trans sP.out⟩
  ·obtain rfl:i=n:=by omega
   have HE:=hid (gG.out (fun j hj _=>mX.out j hj (by rw[HN.out];exact hj)));clear hx;go_wp2_with fail;go_ret;exact⟨by rw[HE.out];rfl,ar.out.trans HX.out⟩
def JT(B g:Nat)(ns:List Nd)(rv:Value)(x:Nd)(w:World)(e:Ending)(w':World):Prop:=
 ∃rv',e= .returned (.tuple #[.int .i64 ((Bo ns x).1:Int),.int .i64 0])/\KG g g rv rv' w w'/\GrR B g w' (Bo ns x).2 rv'
theorem Rd(B g:Nat)(w:World)(ns:List Nd)(rv:Value)(h:GrR B g w ns rv)(x:Nd)(hx:Cw ns.length x)(hin:x∈ns):
  Calls Tryz.prog 138 #[.pointer (some ⟨g,0,none⟩),ndV x] w (JT B g ns rv x w):=by
 have fz:=hid (fun W h=>Kl B g W ns rv h x hx);have gG:=hid (fun W h=>Km B g W ns rv h x);have vo:GN x ns=(Cv x ns:Int):=by unfold GN;rw[if_pos hin]
 rw[vo]at gG;have HG:=hid h;have fH:(Bo ns x).1=Cv x ns:=by unfold Bo;rw[if_pos hin]
 have fr:(Bo ns x).2=ns:=by unfold Bo;rw[if_pos hin]
 have ti:=hid fH;have th:=hid fr;clear fH fr hin vo hx;obtain⟨A,c,rfl⟩:=h.row.shape;clear h;generalize hpl:Cv x ns=pl at *;clear hpl;obtain⟨k,a,d,n,t⟩:=x;simp only[ndV]at fz gG ⊢;obtain⟨s,hs⟩:∃s:ByteArray,s=⟨t.toArray⟩:=⟨_,rfl⟩;have hst:str t= .string s:=by rw[hs];rfl
 rw[hst]at fz gG ⊢;clear hs hst;have ai:=hid (Blk.new w 95 #[.int .i64 k,.int .i64 a,.int .i64 d,.int .i64 n,.string s]);have ar:=hid ((Ext.refl w).alloc (.cells #[.int .i64 k,.int .i64 a,.int .i64 d,.int .i64 n,.string s] 95));obtain⟨w1,aZ⟩:∃w1,w1=w.alloc (.cells #[.int .i64 k,.int .i64 a,.int .i64 d,.int .i64 n,.string s] 95):=⟨_,rfl⟩;rw[<-aZ]at ai ar;have q0:=ai.out.five;have ZV:(0:Int)<=(pl:Int):=by omega
 go_enter Tryz.func138,Tryz.ntmps138;go_upto_region 1 with fail;rw[<-aZ];clear aZ;go_wp2_with fail;refine(fz.out w1 (HG.out.keep ar.out)).mono ?_
 rintro e w2 ⟨rfl,ae⟩;have aI:=hid (ar.out.trans ae);have a6:=hid (ai.out.ext ae);clear q0 ae;have q0:=a6.out.five;go_wp2_with fail;refine(gG.out w2 (HG.out.keep aI.out)).mono ?_
 rintro e w3 ⟨rfl,ab⟩;have aC:=hid (aI.out.trans ab);clear q0 ab;go_wp2_with fail;go_ret2;refine⟨_,by rw[ti.out];rfl,KG.of_ext aC.out,?_⟩;rw[th.out];exact HG.out.keep aC.out
theorem Re(B g:Nat)(w:World)(ns:List Nd)(rv:Value)(h:GrR B g w ns rv)(x:Nd)(hx:Cw ns.length x)(hin:x∉ns)(bI:ns.length<4096):
  Calls Tryz.prog 138 #[.pointer (some ⟨g,0,none⟩),ndV x] w (JT B g ns rv x w):=by
 have fz:=hid (fun W h=>Kl B g W ns rv h x hx);have gG:=hid (fun W h=>Km B g W ns rv h x);have vo:GN x ns= -1:=by unfold GN;rw[if_neg hin]
 rw[vo]at gG;have HG:=hid h;have fH:(Bo ns x).1=ns.length:=by unfold Bo;rw[if_neg hin]
 have fr:(Bo ns x).2=ns++[x]:=by unfold Bo;rw[if_neg hin]
 have iP:Hid (AH (ns++[x])):=hid (by rw[<-fr];exact h.ok.put hx);have ti:=hid fH;have th:=hid fr;clear fH fr hin vo hx;have fC:=h.lo;have pX:=hid h.apart2;have zv:=h.lt;obtain⟨A,c,rfl⟩:=h.row.shape;clear h;obtain⟨i0,hi,aE,hz1,ba⟩:=info_parts FJ;obtain⟨k,a,d,n,t⟩:=x;simp only[ndV]at fz gG ⊢;obtain⟨s,hs⟩:∃s:ByteArray,s=⟨t.toArray⟩:=⟨_,rfl⟩;have pL:Hid (ndC ⟨k,a,d,n,t⟩=[.int .i64 k,.int .i64 a,.int .i64 d,.int .i64 n,.string s]):=hid (by rw[hs];rfl);have hst:str t= .string s:=by rw[hs];rfl
 rw[hst]at fz gG ⊢;clear hs hst;have ai:=hid (Blk.new w 95 #[.int .i64 k,.int .i64 a,.int .i64 d,.int .i64 n,.string s]);have ar:=hid ((Ext.refl w).alloc (.cells #[.int .i64 k,.int .i64 a,.int .i64 d,.int .i64 n,.string s] 95));obtain⟨w1,aZ⟩:∃w1,w1=w.alloc (.cells #[.int .i64 k,.int .i64 a,.int .i64 d,.int .i64 n,.string s] 95):=⟨_,rfl⟩;have hs1:w1.heap.size=w.heap.size+1:=by rw[aZ];simp
 rw[<-aZ]at ai ar;have q0:=ai.out.five;have pa:decide ((ns.length:Int)>=4096)=false:=decide_eq_false (by omega);have hd5:decide (4096<=(ns.length:Int))=false:=decide_eq_false (by omega);go_enter Tryz.func138,Tryz.ntmps138;go_upto_region 1 with fail;rw[<-aZ];clear aZ;go_wp2_with fail;refine(fz.out w1 (HG.out.keep ar.out)).mono ?_
 rintro e w2 ⟨rfl,ae⟩;have aI:=hid (ar.out.trans ae);have a6:=hid (ai.out.ext ae);clear q0 ae;have q0:=a6.out.five;go_wp2_with fail;refine(gG.out w2 (HG.out.keep aI.out)).mono ?_
 rintro e wA ⟨rfl,ab⟩;have bj:=hid (aI.out.trans ab);have xQ:=hid (a6.out.ext ab);have kJ:=hid (HG.out.keep bj.out);have Xe:w.heap.size<wA.heap.size:=by have h1:=ab.size;have h2:=a6.out.lt;omega
 clear q0 ab;have q0:=xQ.out.five;obtain⟨k0,f0,er⟩:=kJ.out.blk.oneG;go_upto_region 8 with fail;have jy:Hid (∀w':World,(wA.alloc (.cells #[.int .i64 k,.int .i64 a,.int .i64 d,.int .i64 n,.string s] 95)).drew.grownBy w' (Value.slice A ns.length c).ownBlock->Blk w' g 71 #[.slice A ns.length c]/\wA.grownBy w' (Value.slice A ns.length c).ownBlock):=hid (fun w' aQ=>by
  have kT:wA.grownBy w' (Value.slice A ns.length c).ownBlock:=by
   refine⟨aQ.os,aQ.tape,aQ.output,?_,fun i h1 h2=> ?_⟩
   ·have:=aQ.size;simp only[World.size_drew,World.size_alloc]at this;omega
   ·exact(aQ.block i (by simp only[World.size_drew,World.size_alloc];omega) h2).trans (Below.heap_alloc wA _ i h1)
  exact⟨(kT.block g er (fun e=>pX.out e.symm)).trans kJ.out.blk,kT⟩)
 have cQ:Hid (∀(j:Nat) (u:Value),[.int .i64 k,.int .i64 a,.int .i64 d,.int .i64 n,.string s][j]? =some u->(wA.alloc (.cells #[.int .i64 k,.int .i64 a,.int .i64 d,.int .i64 n,.string s] 95)).drew.cell? ((⟨wA.heap.size,0,none⟩:Addr).add j)=some u):=hid (fun j u hj=>by
  have h1:=(Blk.new wA 95 #[.int .i64 k,.int .i64 a,.int .i64 d,.int .i64 n,.string s]).drew.cell j;have h2:(⟨wA.heap.size,0,none⟩:Addr).add j=⟨wA.heap.size,j,none⟩:=by
   unfold Addr.add;split
   ·rename_i h;subst h;rfl
   ·simp
  rw[h2,h1,<-hj];simp)
 have io:Hid ((wA.alloc (.cells #[.int .i64 k,.int .i64 a,.int .i64 d,.int .i64 n,.string s] 95)).drew.ownsRow B 95 5 (.slice A ns.length c) ns.length (C6 ns)):=hid (Aj kJ.out.row (fun k _ hk=>Below.heap_alloc wA _ k hk));have i6:Hid (ns.length+1<=maxLen):=hid (by unfold maxLen;omega);have ez:Hid ((ns.length+1)*48<=140737488355328):=hid (by omega);have tn:Hid (B<=(wA.alloc (.cells #[.int .i64 k,.int .i64 a,.int .i64 d,.int .i64 n,.string s] 95)).drew.heap.size):=hid (by simp only[World.size_drew,World.size_alloc];omega)
 go_region_law (refine step_append_lies _ rfl (.tmp 27) (.tmp 29) 32 rfl B 95 i0 _ 5 48 Tryz.underlying32 hi aE hz1 ba rfl (by decide) _ ns.length (C6 ns) rfl io.out ⟨wA.heap.size,0,none⟩ 1 1 [.int .i64 k,.int .i64 a,.int .i64 d,.int .i64 n,.string s] rfl rfl cQ.out (by simp[Value.oneCell']) (by decide) i6.out ez.out tn.out _ rfl ?_;intro g' c' w' aG aQ hat hlt;have pO:=hid aG;have eA:=hid (jy.out w' aQ);have fP:=hid hat;clear aG aQ hat;have m0:=eA.out.1.oneG)
 all_goals
  have uP:g'≠g:=by
   rcases fP.out with h4|h4
   ·exact fun e=>pX.out (h4.trans (congrArg some e))
   ·simp only[World.size_drew,World.size_alloc]at h4;omega
  have eh:=eA.out.1.set_ 0 (.slice (some ⟨g',0,none⟩) (ns.length+1) c');have be:=Ci (w':=w'.setCell ⟨g,0,none⟩ (.slice (some ⟨g',0,none⟩) (ns.length+1) c')) pO.out (fun k hk=>Below.heap_setCell _ _ _ k (by
   simp only[Value.ownBlock,Option.some.injEq]at hk;show k≠g;omega))
  have eP:∀k,k<w.heap.size->k≠g->(Value.slice A ns.length c).ownBlock≠some k->(w'.setCell ⟨g,0,none⟩ (.slice (some ⟨g',0,none⟩) (ns.length+1) c')).heap[k]? =w.heap[k]? :=fun k h1 h2 h3=>
   (Below.heap_setCell _ _ _ k h2).trans ((eA.out.2.block k (by omega) (fun e=>h3 e.symm)).trans (bj.out.block k h1))
  have uH:(w'.setCell ⟨g,0,none⟩ (.slice (some ⟨g',0,none⟩) (ns.length+1) c')).os=w.os/\(w'.setCell ⟨g,0,none⟩ (.slice (some ⟨g',0,none⟩) (ns.length+1) c')).tape=w.tape/\(w'.setCell ⟨g,0,none⟩ (.slice (some ⟨g',0,none⟩) (ns.length+1) c')).output=w.output/\wA.heap.size<=(w'.setCell ⟨g,0,none⟩ (.slice (some ⟨g',0,none⟩) (ns.length+1) c')).heap.size:=by
   have h2:=Below.setCell (Below.refl g w') (p:=⟨g,0,none⟩) (Nat.le_refl _) (.slice (some ⟨g',0,none⟩) (ns.length+1) c');have h4:=eA.out.2;exact⟨h2.os.trans (h4.os.trans bj.out.os),h2.tape.trans (h4.tape.trans bj.out.tape),h2.output.trans (h4.output.trans bj.out.output),Nat.le_trans h4.size h2.size⟩
  generalize (w'.setCell ⟨g,0,none⟩ (.slice (some ⟨g',0,none⟩) (ns.length+1) c'))=wB at *;have pS:=hid eh;have iO:=hid be;have pV:=hid eP;have mp:=hid uH;clear q0 k0 f0 m0 be eP uH;obtain⟨k0,f0,vi⟩:=Blk.oneG eh;clear eh;have aZ:IntKind.i64.wrap ((ns.length:Int)+1-1)=(ns.length:Int):=by rw[IntKind.wrap_i64];omega
  have cx:IntKind.i64.wrap (((ns.length+1:Nat):Int)-1)=(ns.length:Int):=by rw[IntKind.wrap_i64];omega
  go_wp2_with fail;go_ret2;have Zk:=mp.out.2.2.2;refine⟨(.slice (some ⟨g',0,none⟩) (ns.length+1) c'),by rw[ti.out];rfl,⟨mp.out.1,mp.out.2.1,mp.out.2.2.1,by omega,fun k h1 h2 h3 h4=>pV.out k h1 h2 h4,fun j hj=> ?_⟩,?_⟩
  ·have h5:g'=j:=Option.some.inj hj;rcases fP.out with h4|h4
   ·exact .inl (h4.trans (congrArg some h5))
   ·simp only[World.size_drew,World.size_alloc]at h4;exact .inr (by omega)
  ·rw[th.out];refine⟨pS.out,?_,fC,iP.out,by simp only[List.length_append,List.length_singleton];omega⟩;unfold AU;rw[Dx,Fm,pL.out,List.length_append,List.length_singleton];exact iO.out
theorem Rf(B g:Nat)(w:World)(ns:List Nd)(rv:Value)(h:GrR B g w ns rv)(x:Nd)(hx:Cw ns.length x)(bI:ns.length<4096):
  Calls Tryz.prog 138 #[.pointer (some ⟨g,0,none⟩),ndV x] w (JT B g ns rv x w):=by
 by_cases hin:x∈ns
 ·exact Rd B g w ns rv h x hx hin
 ·exact Re B g w ns rv h x hx hin bI
theorem BA.shape{B n:Nat}{w:World}{v:Value}{S:List Nat}(h:BA B w v n S):∃A c,v= .slice A n c:=AN h
theorem BA.pos{B n:Nat}{w:World}{v:Value}{S:List Nat}(h:BA B w v n S)(hn:0<n):∃g c,v= .slice (some ⟨g,0,none⟩) n c:=by
 rcases h.2 with ⟨_,h2⟩|⟨g,cap,cur,hv,_⟩
 ·omega
 ·exact⟨g,cap,hv⟩
theorem BA.nil(B:Nat)(w:World):BA B w (.slice none 0 0) 0 []:=World.ownsRow_nil w B _ 1
def E3(B g:Nat)(ns:List Nd)(rv:Value)(e:Ex)(w:World)(i:Nat)(at_:Value)(wr:World):Prop:=
 ∃rv',KG g g rv rv' w wr/\GrR B g wr (BH ([],ns) ((Ak 0 e).take i)).2 rv'/\BA w.heap.size wr at_ i (BH ([],ns) ((Ak 0 e).take i)).1/\En rv' at_
theorem E3.start{B g:Nat}{ns:List Nd}{rv:Value}{e:Ex}{w w1:World}(h:GrR B g w ns rv)(hx:Ext w w1):E3 B g ns rv e w 0 (.slice none 0 0) w1:=
 ⟨rv,KG.of_ext hx,by rw[List.take_zero];exact h.keep hx,by rw[List.take_zero];exact BA.nil _ _,fun _ _ h2=>by cases h2⟩
theorem E3.next {B g i g6:Nat} {ns gs:List Nd} {rv rv1 rv2:Value} {e:Ex} {w wr w1 w2 w6:World} {at_ at2:Value} {bJ:List Nat} {o:Obj} {x:Nd} (h0:GrR B g w ns rv)
  (hst:BH ([],ns) ((Ak 0 e).take (i+1))=(bJ++[(Bo gs (BW bJ x)).1],(Bo gs (BW bJ x)).2))
  (h1:KG g g rv rv1 w wr) (ha:En rv1 at_) (hr:BA w.heap.size wr at_ i bJ) (hx:Ext wr w1) (hk:KG g g rv1 rv2 w1 w2) (hp:GrR B g w2 (Bo gs (BW bJ x)).2 rv2)
  (aQ:(w2.alloc o).grownBy w6 at_.ownBlock) (hat:at_.ownBlock=some g6\/g6=(w2.alloc o).heap.size) (hu:at2.ownBlock=some g6)
  (hn:BA w.heap.size w6 at2 (i+1) (bJ++[(Bo gs (BW bJ x)).1])):E3 B g ns rv e w (i+1) at2 w6:=by
 have hs:(w2.alloc o).heap.size=w2.heap.size+1:=by simp
 have fD:=h0.lt;have fu:=(KG.of_ext hx).trans hk;have bK:=h1.size;have kO:=fu.size;have pc:at_.ownBlock≠some g:=fun he=>by have:=(hr.blt g he).1;omega
 have fK:∀j,rv2.ownBlock=some j->at_.ownBlock≠some j:=fun j hj he=>by
  rcases fu.move j hj with h5|h5
  ·exact ha j h5 he
  ·have:=(hr.blt j he).2;omega
 have eo:∀j,j<w2.heap.size->at_.ownBlock≠some j->w6.heap[j]? =w2.heap[j]? :=fun j hj hne=>(aQ.block j (by omega) (fun e=>hne e.symm)).trans (Below.heap_alloc w2 o j hj)
 have uC:=aQ.size;have sb:=hp.lt;refine⟨rv2,?_,?_,?_,?_⟩
 ·have k2:=h1.trans fu;refine⟨aQ.os.trans k2.os,aQ.tape.trans k2.tape,aQ.output.trans k2.output,by omega,fun k p1 p2 p3 p4=>(eo k (by have:=k2.size;omega) (fun he=>by have:=(hr.blt k he).1;omega)).trans (k2.block k p1 p2 p3 p4),k2.move⟩
 ·rw[hst];exact⟨(eo g sb pc).trans hp.blk,Ci hp.row (fun k hk'=>eo k (BV hp.row hk') (fK k hk')),hp.lo,hp.ok,hp.few⟩
 ·rw[hst];exact hn
 ·intro j hj he;rw[hu]at he;injection he with he
  subst he;rcases hat with h5|h5
  ·exact fK g6 hj h5
  ·have:=BV hp.row hj;omega
def MY(B g:Nat)(ns:List Nd)(rv:Value)(e:Ex)(w:World)(r:Ending)(w':World):Prop:=
 ∃(rv':Value) (gi ci:Nat) (more:List Nat),r= .returned (.tuple #[.slice (some ⟨gi,0,none⟩) e.size ci,.int .i64 0])/\more.length+1=e.size/\w'.cell? ⟨gi,more.length,none⟩=some (.int .i64 ((Bg ns e).1:Int))/\KG g g rv rv' w w'/\GrR B g w' (Bg ns e).2 rv'
theorem Ri(B g:Nat)(w:World)(ns:List Nd)(rv v:Value)(e:Ex)(h:GrR B g w ns rv)(hv:Ec g g rv w v (Ak 0 e))(jo:e.Good)(bK:e.size<=200)(iW:e.depth<=40)(bI:ns.length+e.size<=4096):
  Calls Tryz.prog 79 #[.pointer (some ⟨g,0,none⟩),v] w (MY B g ns rv e w):=by
 have jv:=hid (Kb w v (Ak 0 e) hv.read (by rw[AO];omega) (Ho e jo 0));rw[Hx e jo,decide_eq_true ⟨bK,iW⟩]at jv;have HG:=hid h;have HV:=hid hv;obtain⟨i0,zr,aE,hz1,ba⟩:=info_parts JD;obtain⟨n,hn⟩:∃n,n=e.size:=⟨_,rfl⟩;have lF:=AO e 0;obtain⟨A1,c1,rfl,_⟩:=hv;rw[lF,<-hn]at jv HV ⊢;unfold MY;rw[<-hn];have HN:=hid hn;have jc:=hid lF;have du:1<=n:=by rw[hn];exact e.size_pos
 have hn2:n<=200:=by omega
 obtain⟨A,c,rfl⟩:=h.row.shape;have iw:=hid jo;have VZ:=hid bI;have k0:=h.blk.oneG;clear h hn lF jo bK iW bI k0;go_enter Tryz.func79,Tryz.ntmps79;go_wp2_with fail;refine jv.out.mono ?_
 rintro r w1 ⟨rfl,ag⟩;have ar:=hid ag;have k0:=(HG.out.keep ag).blk.oneG;clear ag;have aZ:∀i:Nat,i<n->IntKind.i64.wrap ((i:Int)+1)=(i:Int)+1:=fun i hi=>IntWalk.i64_in _ (by omega)
 have VK:=hid aZ;clear aZ;go_wp2_with fail;go_loopw [7,22] (fun s7 x5 wr=>∃i:Nat,i<=n/\x5= .int .i64 (i:Int)/\E3 B g ns (.slice A ns.length c) e w i s7 wr) (fun _ x5 _=>n-(intOf x5).toNat)
 case atStart=>exact⟨0,Nat.zero_le _,rfl,E3.start HG.out ar.out⟩
 case round=>
  obtain⟨i,hi,rfl,a5⟩:=hrel;by_cases hlt:i<n
  ·obtain⟨bL,kQ,aQ,be,fK⟩:=a5;have tZ:i<e.size:=by rw[<-HN.out];exact hlt
   have hl:i<(Ak 0 e).length:=by rw[AO];exact tZ
   have mh:=FG.at HG.out.ok iw.out i (Nat.le_of_lt tZ);have az:=Hp e iw.out 0 i _ (List.getElem?_eq_getElem hl);rw[Nat.zero_add]at az;have iT:=JA mh az;have sm:=mh.big;have aF:=mh.len;have fD:=HG.out.lt;have mi:=HV.out.keep kQ;have bG:=hid (Ga ([],ns) (Ak 0 e) i hl);obtain⟨A2,c2,he2,cW⟩:=mi;obtain⟨q,o,hA,hq,p2,p3,p4,cO⟩:=cW (by omega);obtain⟨y0,y1,y2,y3,y4⟩:=cO i hl;simp only[Value.slice.injEq]at he2;obtain⟨rfl,iB,rfl⟩:=he2;clear iB;subst hA;have kA:(i:Int)<(n:Int):=by omega
   have aB:(0:Int)<=(i:Int):=by omega
   have p7:=VK.out i hlt;clear cW cO p4;generalize hst:BH ([],ns) (List.take i (Ak 0 e))=st at *;clear hst;obtain⟨bJ,gs⟩:=st;simp only at aQ be aF mh iT sm;rw[Gp]at bG;simp only at bG;have wS:=fK;have iF:=hid (fun rv2 w1 w2 w6 at2 g6 o hx hk hp aQ hat hu hn=>E3.next (rv2:=rv2) (w1:=w1) (w2:=w2) (w6:=w6) (at2:=at2) (g6:=g6) (o:=o) HG.out bG.out kQ fK be hx hk hp aQ hat hu hn);have bH:=hid (fun W h=>Rf B g W gs bL h _ iT (by have:=VZ.out;omega));obtain⟨A3,c3,rfl⟩:=be.shape;have nK:∀j,j<i->∃ga,A3=some ⟨ga,0,none⟩/\ga<wr.heap.size/\wr.cell? ⟨ga,j,none⟩=some (.int .i64 ((bJ.getD j 0:Nat):Int)):=fun j hj=>by
    obtain⟨ga,ca,he⟩:=be.pos (by omega);injection he with he1 he2 he3
    subst he1;exact⟨ga,rfl,(be.blt ga rfl).2,be.get j hj⟩
   have lQ:=hid nK;have i4:=hid be;have fd:=hid aQ;have wD:=hid kQ;have ZJ:=kQ.size;have su:=az.args_len;have gC:=hid az.oper;clear nK be aQ kQ fK mh iT bG;generalize (Ak 0 e)[i]=x at *;clear hl;have jP:Hid (En bL (.slice A3 i c3)):=hid wS;clear wS;rcases az with ⟨k,t,rfl,ho⟩|⟨k,nn,j,rfl,ho,hj⟩|⟨k,j,jq,rfl,hk,hj,vh⟩
   ·have jX:BW bJ ⟨(k:Int),0,0,0,t⟩=⟨(k:Int),0,0,0,t⟩:=by
     have:=ho.lt;unfold BW;rw[if_neg (by simp only;omega),if_neg (by simp only;omega)]
    rw[jX]at bH iF;rw[CG ho]at gC;simp only at gC;have aT:=hid (fun W=>BB W (k:Int));rw[gC.out]at aT;clear jX ho gC;simp only[ndV]at bH;simp only at y0 y1 y2 y3 y4;generalize hkk:(k:Int)=kk at *;obtain⟨s,hs⟩:∃s:ByteArray,s=⟨(t:List UInt8).toArray⟩:=⟨_,rfl⟩;have hst:str t= .string s:=by rw[hs];rfl
    rw[hst]at y4 bH;clear hs hst hkk;have dw:=hid (Blk.new wr 95 #[.int .i64 kk,.int .i64 0,.int .i64 0,.int .i64 0,.string s]);have dZ:=hid ((Ext.refl wr).alloc (.cells #[.int .i64 kk,.int .i64 0,.int .i64 0,.int .i64 0,.string s] 95));obtain⟨w7,fm⟩:∃w7,w7=wr.alloc (.cells #[.int .i64 kk,.int .i64 0,.int .i64 0,.int .i64 0,.string s] 95):=⟨_,rfl⟩;rw[<-fm]at dw dZ;have q0:=dw.out.five;go_upto_region 8 with fail;rw[<-fm];clear fm y0 y1 y2 y3 y4;go_wp2_with fail;refine(aT.out _).mono ?_
    rintro r w8 ⟨rfl,rfl⟩;go_wp2_with fail;refine(aT.out _).mono ?_
    rintro r w9 ⟨rfl,rfl⟩;go_wp2_with fail;refine(bH.out w7 (fd.out.keep dZ.out)).mono ?_
    rintro r eC ⟨nv2,rfl,dj,eu⟩;have oK:=hid dj;have oN:=hid eu;have ib:=(KG.of_ext dZ.out).trans dj;have em:wr.heap.size<=eC.heap.size:=ib.size;have en:BA w.heap.size eC (.slice A3 i c3) i bJ:=Ci i4.out (fun k hk=>ib.block k (BV i4.out hk) (fun e=>by have:=(i4.out.blt k hk).1;omega) (fun e=>by have:=(i4.out.blt k hk).1;omega) (fun e=>jP.out k e hk));have kg:=hid en;clear ib en dj eu q0;have ix:=hid (fun w6 at2 g6 o aQ hat hu hn=>iF.out nv2 w7 eC w6 at2 g6 o dZ.out oK.out oN.out aQ hat hu hn);generalize (Bo gs _).1=pid at *;have dE:Hid (i+1<=maxLen):=hid (by unfold maxLen;omega);have dD:Hid ((i+1)*8<=140737488355328):=hid (by omega);have fj:Hid ((eC.alloc (.cells #[.int .i64 (pid:Int)] 3)).ownsRow w.heap.size 3 1 (.slice A3 i c3) i (bJ.map din)):=hid (Aj kg.out (fun k _ hk=>Below.heap_alloc _ _ k hk));have fF:=hid (C3 eC 3 [.int .i64 (pid:Int)]);have ew:Hid (w.heap.size<=(eC.alloc (.cells #[.int .i64 (pid:Int)] 3)).heap.size):=hid (by simp;omega);go_wp2_with (at_builtin;go_must (refine wpList_append_lies _ rfl _ _ 41 rfl w.heap.size 3 i0 _ 1 8 Tryz.underlying41 zr aE hz1 ba rfl (by decide) (.slice A3 i c3) i (bJ.map din) rfl fj.out ⟨eC.heap.size,0,none⟩ 1 1 [.int .i64 (pid:Int)] rfl rfl fF.out (by simp[Value.oneCell']) (by decide) dE.out dD.out ew.out _ rfl ?_;intro g6 c6 w6 bh cw cG gr;have gD:Hid (BA w.heap.size w6 (.slice (some ⟨g6,0,none⟩) (i+1) c6) (i+1) (bJ++[pid])):=hid (by unfold BA;rw[List.map_append];exact bh);have wO:=hid (ix.out w6 (.slice (some ⟨g6,0,none⟩) (i+1) c6) g6 _ cw cG rfl gD.out);clear bh cw cG gr));go_roundw
    case rel=>exact⟨i+1,hlt,by go_num,wO.out⟩
    case measure=>simp[intOf];omega
   ·have jX:BW bJ ⟨(k:Int),(j:Int),0,nn,[]⟩=⟨(k:Int),((bJ.getD j 0:Nat):Int),0,nn,[]⟩:=by
     have:=ho.1;unfold BW;rw[if_pos (by simp only;omega),if_neg (by simp only;omega)];rfl
    rw[jX]at bH iF;rw[Cs ho]at gC;simp only at gC;have aT:=hid (fun W=>BB W (k:Int));rw[gC.out]at aT;obtain⟨ga,rfl,hga,oM⟩:=lQ.out j hj;have tD:=hid oM;have pC:(j:Int)<(i:Int):=by omega
    have tY:(0:Int)<=(j:Int):=by omega
    clear jX ho hj gC oM;generalize ((bJ.getD j 0:Nat):Int)=va at *;simp only[ndV]at bH;simp only at y0 y1 y2 y3 y4;generalize hkk:(k:Int)=kk at *;obtain⟨s,hs⟩:∃s:ByteArray,s=⟨([]:List UInt8).toArray⟩:=⟨_,rfl⟩;have hst:str []= .string s:=by rw[hs];rfl
    rw[hst]at y4 bH;clear hs hst hkk;have dw:=hid (Blk.new wr 95 #[.int .i64 kk,.int .i64 (j:Int),.int .i64 0,.int .i64 nn,.string s]);have dZ:=hid ((Ext.refl wr).alloc (.cells #[.int .i64 kk,.int .i64 (j:Int),.int .i64 0,.int .i64 nn,.string s] 95));obtain⟨w7,fm⟩:∃w7,w7=wr.alloc (.cells #[.int .i64 kk,.int .i64 (j:Int),.int .i64 0,.int .i64 nn,.string s] 95):=⟨_,rfl⟩;rw[<-fm]at dw dZ;have q0:=dw.out.five;go_upto_region 8 with fail;rw[<-fm];clear fm y0 y1 y2 y3 y4;go_wp2_with fail;refine(aT.out _).mono ?_
    rintro r w8 ⟨rfl,rfl⟩;have v0:=(dZ.out.cell hga).trans tD.out;have f1:=dw.out.frozen 1;have oD:=hid (dw.out.set_ 1 (.int .i64 va));have ei:=hid (dZ.out.setCell (p:=⟨wr.heap.size,1,none⟩) (Nat.le_refl _) (.int .i64 va));have r0:=Blk.five oD.out;go_wp2_with fail;refine(aT.out _).mono ?_
    rintro r w9 ⟨rfl,rfl⟩;go_wp2_with fail;refine(bH.out (w7.setCell ⟨wr.heap.size,1,none⟩ (.int .i64 va)) (fd.out.keep ei.out)).mono ?_
    rintro r eC ⟨nv2,rfl,dj,eu⟩;have oK:=hid dj;have oN:=hid eu;have ib:=(KG.of_ext ei.out).trans dj;have em:wr.heap.size<=eC.heap.size:=ib.size;have en:BA w.heap.size eC (.slice (some ⟨ga,0,none⟩) i c3) i bJ:=Ci i4.out (fun k hk=>ib.block k (BV i4.out hk) (fun e=>by have:=(i4.out.blt k hk).1;omega) (fun e=>by have:=(i4.out.blt k hk).1;omega) (fun e=>jP.out k e hk));have kg:=hid en;clear ib en dj eu q0;have ix:=hid (fun w6 at2 g6 o aQ hat hu hn=>iF.out nv2 (w7.setCell ⟨wr.heap.size,1,none⟩ (.int .i64 va)) eC w6 at2 g6 o ei.out oK.out oN.out aQ hat hu hn);generalize (Bo gs _).1=pid at *;have dE:Hid (i+1<=maxLen):=hid (by unfold maxLen;omega);have dD:Hid ((i+1)*8<=140737488355328):=hid (by omega);have fj:Hid ((eC.alloc (.cells #[.int .i64 (pid:Int)] 3)).ownsRow w.heap.size 3 1 (.slice (some ⟨ga,0,none⟩) i c3) i (bJ.map din)):=hid (Aj kg.out (fun k _ hk=>Below.heap_alloc _ _ k hk));have fF:=hid (C3 eC 3 [.int .i64 (pid:Int)]);have ew:Hid (w.heap.size<=(eC.alloc (.cells #[.int .i64 (pid:Int)] 3)).heap.size):=hid (by simp;omega);go_wp2_with (at_builtin;go_must (refine wpList_append_lies _ rfl _ _ 41 rfl w.heap.size 3 i0 _ 1 8 Tryz.underlying41 zr aE hz1 ba rfl (by decide) (.slice (some ⟨ga,0,none⟩) i c3) i (bJ.map din) rfl fj.out ⟨eC.heap.size,0,none⟩ 1 1 [.int .i64 (pid:Int)] rfl rfl fF.out (by simp[Value.oneCell']) (by decide) dE.out dD.out ew.out _ rfl ?_;intro g6 c6 w6 bh cw cG gr;have gD:Hid (BA w.heap.size w6 (.slice (some ⟨g6,0,none⟩) (i+1) c6) (i+1) (bJ++[pid])):=hid (by unfold BA;rw[List.map_append];exact bh);have wO:=hid (ix.out w6 (.slice (some ⟨g6,0,none⟩) (i+1) c6) g6 _ cw cG rfl gD.out);clear bh cw cG gr));go_roundw
    case rel=>exact⟨i+1,hlt,by go_num,wO.out⟩
    case measure=>simp[intOf];omega
   ·have jX:BW bJ ⟨(k:Int),(j:Int),(jq:Int),0,[]⟩=⟨(k:Int),((bJ.getD j 0:Nat):Int),((bJ.getD jq 0:Nat):Int),0,[]⟩:=by
     unfold BW;rw[if_pos (by simp only;omega),if_pos (by simp only;omega)];rfl
    rw[jX]at bH iF;rw[BP hk]at gC;simp only at gC;have aT:=hid (fun W=>BB W (k:Int));rw[gC.out]at aT;obtain⟨ga,rfl,hga,oM⟩:=lQ.out j hj;obtain⟨gb,dy,_,wK⟩:=lQ.out jq vh;obtain rfl:ga=gb:=by injection dy with dy;injection dy
    have tD:=hid oM;have Wt:=hid wK;have pC:(j:Int)<(i:Int):=by omega
    have tY:(0:Int)<=(j:Int):=by omega
    have hjq1:(jq:Int)<(i:Int):=by omega
    have hjq0:(0:Int)<=(jq:Int):=by omega
    clear jX hk hj vh gC oM wK dy;generalize ((bJ.getD j 0:Nat):Int)=va at *;generalize ((bJ.getD jq 0:Nat):Int)=vb at *;simp only[ndV]at bH;simp only at y0 y1 y2 y3 y4;generalize hkk:(k:Int)=kk at *;obtain⟨s,hs⟩:∃s:ByteArray,s=⟨([]:List UInt8).toArray⟩:=⟨_,rfl⟩;have hst:str []= .string s:=by rw[hs];rfl
    rw[hst]at y4 bH;clear hs hst hkk;have dw:=hid (Blk.new wr 95 #[.int .i64 kk,.int .i64 (j:Int),.int .i64 (jq:Int),.int .i64 0,.string s]);have dZ:=hid ((Ext.refl wr).alloc (.cells #[.int .i64 kk,.int .i64 (j:Int),.int .i64 (jq:Int),.int .i64 0,.string s] 95));obtain⟨w7,fm⟩:∃w7,w7=wr.alloc (.cells #[.int .i64 kk,.int .i64 (j:Int),.int .i64 (jq:Int),.int .i64 0,.string s] 95):=⟨_,rfl⟩;rw[<-fm]at dw dZ;have q0:=dw.out.five;go_upto_region 8 with fail;rw[<-fm];clear fm y0 y1 y2 y3 y4;go_wp2_with fail;refine(aT.out _).mono ?_
    rintro r w8 ⟨rfl,rfl⟩;have v0:=(dZ.out.cell hga).trans tD.out;have f1:=dw.out.frozen 1;have oD:=hid (dw.out.set_ 1 (.int .i64 va));have ei:=hid (dZ.out.setCell (p:=⟨wr.heap.size,1,none⟩) (Nat.le_refl _) (.int .i64 va));have r0:=Blk.five oD.out;have v1:=(ei.out.cell hga).trans Wt.out;have f2:=oD.out.frozen 2;have tp:=hid (Blk.set_ oD.out 2 (.int .i64 vb));have eH:=hid (ei.out.setCell (p:=⟨wr.heap.size,2,none⟩) (Nat.le_refl _) (.int .i64 vb));have t0:=Blk.five tp.out;go_wp2_with fail;refine(aT.out _).mono ?_
    rintro r w9 ⟨rfl,rfl⟩;go_wp2_with fail;refine(bH.out ((w7.setCell ⟨wr.heap.size,1,none⟩ (.int .i64 va)).setCell ⟨wr.heap.size,2,none⟩ (.int .i64 vb)) (fd.out.keep eH.out)).mono ?_
    rintro r eC ⟨nv2,rfl,dj,eu⟩;have oK:=hid dj;have oN:=hid eu;have ib:=(KG.of_ext eH.out).trans dj;have em:wr.heap.size<=eC.heap.size:=ib.size;have en:BA w.heap.size eC (.slice (some ⟨ga,0,none⟩) i c3) i bJ:=Ci i4.out (fun k hk=>ib.block k (BV i4.out hk) (fun e=>by have:=(i4.out.blt k hk).1;omega) (fun e=>by have:=(i4.out.blt k hk).1;omega) (fun e=>jP.out k e hk));have kg:=hid en;clear ib en dj eu q0;have ix:=hid (fun w6 at2 g6 o aQ hat hu hn=>iF.out nv2 ((w7.setCell ⟨wr.heap.size,1,none⟩ (.int .i64 va)).setCell ⟨wr.heap.size,2,none⟩ (.int .i64 vb)) eC w6 at2 g6 o eH.out oK.out oN.out aQ hat hu hn);generalize (Bo gs _).1=pid at *;have dE:Hid (i+1<=maxLen):=hid (by unfold maxLen;omega);have dD:Hid ((i+1)*8<=140737488355328):=hid (by omega);have fj:Hid ((eC.alloc (.cells #[.int .i64 (pid:Int)] 3)).ownsRow w.heap.size 3 1 (.slice (some ⟨ga,0,none⟩) i c3) i (bJ.map din)):=hid (Aj kg.out (fun k _ hk=>Below.heap_alloc _ _ k hk));have fF:=hid (C3 eC 3 [.int .i64 (pid:Int)]);have ew:Hid (w.heap.size<=(eC.alloc (.cells #[.int .i64 (pid:Int)] 3)).heap.size):=hid (by simp;omega);go_wp2_with (at_builtin;go_must (refine wpList_append_lies _ rfl _ _ 41 rfl w.heap.size 3 i0 _ 1 8 Tryz.underlying41 zr aE hz1 ba rfl (by decide) (.slice (some ⟨ga,0,none⟩) i c3) i (bJ.map din) rfl fj.out ⟨eC.heap.size,0,none⟩ 1 1 [.int .i64 (pid:Int)] rfl rfl fF.out (by simp[Value.oneCell']) (by decide) dE.out dD.out ew.out _ rfl ?_;intro g6 c6 w6 bh cw cG gr;have gD:Hid (BA w.heap.size w6 (.slice (some ⟨g6,0,none⟩) (i+1) c6) (i+1) (bJ++[pid])):=hid (by unfold BA;rw[List.map_append];exact bh);have wO:=hid (ix.out w6 (.slice (some ⟨g6,0,none⟩) (i+1) c6) g6 _ cw cG rfl gD.out);clear bh cw cG gr));go_roundw
    case rel=>exact⟨i+1,hlt,by go_num,wO.out⟩
    case measure=>simp[intOf];omega
  ·obtain⟨bL,kQ,aQ,be,fK⟩:=a5;obtain⟨more,lC,nS⟩:=KI e iw.out ns;have hin:i=n:=by omega
   rw[List.take_of_length_le (by rw[AO,<-HN.out];omega),nS]at aQ be;simp only at aQ be;obtain⟨gi,ci,rfl⟩:=be.pos (by omega);have aa:=be.get more.length (by have:=HN.out;omega);rw[Dm _ _ rfl]at aa;have wD:=hid kQ;have fd:=hid aQ;have mD:=hid aa;have HMO:=hid lC;clear kQ aQ be fK nS lC aa;go_wp2_with fail;go_ret2;exact⟨bL,gi,ci,more,by rw[hin];rfl,by rw[HN.out];exact HMO.out,mD.out,wD.out,fd.out⟩
def T6(a0 B g:Nat)(w:World)(L:Value)(l:List Int)(a:Nat):Prop:=Hu B g w L l a/\a0<=a
section
variable {a0 B g:Nat} {w w':World} {L:Value} {l:List Int} {a:Nat}
theorem T6.few(h:T6 a0 B g w L l a):l.length<=1000000:=h.1.few
end
def MZ(B g:Nat)(ns:List Nd)(rv:Value)(e:Ex)(w:World)(r:Ending)(w':World):Prop:=
 ∃rv',r= .returned (.tuple #[.int .i64 ((Bg ns e).1:Int),.int .i64 0])/\KG g g rv rv' w w'/\GrR B g w' (Bg ns e).2 rv'
theorem Rm(B g:Nat)(w:World)(ns:List Nd)(rv v:Value)(e:Ex)(h:GrR B g w ns rv)(hv:Ec g g rv w v (Ak 0 e))(jo:e.Good)(bK:e.size<=200)(iW:e.depth<=40)(bI:ns.length+e.size<=4096):
  Calls Tryz.prog 25 #[.pointer (some ⟨g,0,none⟩),v] w (MZ B g ns rv e w):=by
 have HID:=hid (Ri B g w ns rv v e h hv jo bK iW bI);obtain⟨A1,c1,rfl,_⟩:=hv;clear h jo iW bI;go_enter Tryz.func25,Tryz.ntmps25;go_wp2_with fail;refine HID.out.mono ?_
 rintro r w1 ⟨rv',gi,ci,more,rfl,hm,hc,hk,hg⟩;rw[<-hm]at bK ⊢;have HK:=hid hk;have HG:=hid hg;clear hm hk hg;obtain⟨kz,Xq⟩:∃kz,kz=more.length:=⟨_,rfl⟩;rw[<-Xq]at bK hc ⊢;clear Xq;have hz1:IntKind.i64.wrap (((kz+1:Nat):Int)-1)=(kz:Int):=by rw[IntWalk.i64_in _ (by omega)];omega
 have ba:IntKind.i64.wrap ((kz:Int)+1-1)=(kz:Int):=by rw[IntWalk.i64_in _ (by omega)];omega
 have kx:IntKind.i64.wrap (kz:Int)=(kz:Int):=IntWalk.i64_in _ (by omega);have pm:(kz:Int)<(kz:Int)+1:=by omega
 have ye:(0:Int)<=(kz:Int):=by omega
 generalize hpid:(Bg ns e).1=pid at *;have tf:=hid hpid;clear hpid;go_wp2_with fail;go_ret2;exact⟨rv',by rw[tf.out];rfl,HK.out,HG.out⟩
def TW(w:World)(g:Nat):Nat:=match w.cell? ⟨g,1,none⟩ with
 |some (.int _ n)=>n.toNat
 |_=>0
theorem Hu.place{B g:Nat}{w:World}{L:Value}{l:List Int}{a:Nat}(h:Hu B g w L l a):TW w g=a:=by
 unfold TW;rw[h.blk.cell 1];simp
theorem GrR.kb{B g tg:Nat}{w w':World}{ns:List Nd}{rv:Value}(h:GrR B g w ns rv)(ht:tg<B)(hk:KB w.heap.size tg w w'):GrR B g w' ns rv:=
 ⟨(hk.block g h.lt (by have:=h.lo;omega)).trans h.blk,h.row.kbs ht hk,h.lo,h.ok,h.few⟩
end Big
end Go.Proofs.YtkoaogkknnelaaaGreatDoor
