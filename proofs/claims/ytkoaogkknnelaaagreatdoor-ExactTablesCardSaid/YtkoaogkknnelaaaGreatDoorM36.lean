import Derived.Test.YtkoaogkknnelaaaGreatDoorM34
set_option linter.unusedVariables false
set_option linter.unusedSimpArgs false
set_option maxHeartbeats 8000000
set_option maxRecDepth 100000
namespace Go.Proofs.YtkoaogkknnelaaaGreatDoor
namespace Big
open Lib renaming hid → J
open Go.RowKit
theorem KC(B g:Nat)(w:World)(ns:List Nd)(rv:Value)(h:GrR B g w ns rv)(x:Nd)(hx:CF ns.length x):
  Calls Tryz.prog 180 #[.pointer (some ⟨g,0,none⟩),ndV x] w fun e w'=>e= .returned (.bool true)/\Ext w w':=by
 have cI:=J (fun W=>KM W x (by have:=hx.text;omega));rw[hx.plain]at cI;have aS:=J (fun W=>Bv W x.kind);rw[hx.oper]at aS;have xM:=J (fun W=>KH W x hx);have hlt:=hx.args_lt;have Xa:=J (fun W h (a:Nat) (ha:a<ns.length)=>(decide_eq_true (⟨by omega,by omega⟩:0<=(a:Int)/\(a:Int)<(ns.length:Int))) ▸ LG B g W ns rv h (a:Int));have HG:=J h;have hal:=hx.args_len;have hz1:(BN x).length<1->x.a=0:=by
  intro hl;rcases hx with ⟨k,t,rfl,ho⟩|⟨k,n,j,rfl,ho,hj⟩|⟨k,j,q,rfl,hk,hj,hq⟩
  ·rfl
  ·rw[Cz ho]at hl;simp at hl
  ·rw[BW hk]at hl;simp at hl
 have bu:(BN x).length<2->x.b=0:=by
  intro hl;rcases hx with ⟨k,t,rfl,ho⟩|⟨k,n,j,rfl,ho,hj⟩|⟨k,j,q,rfl,hk,hj,hq⟩
  ·rfl
  ·rfl
  ·rw[BW hk]at hl;simp at hl
 have dH:Hid (∀i,i<(BN x).length->(BN x).getD i 0<ns.length):=J (fun i hi=>by
  rw[qaa,qad hi];exact hlt _ (qaw hi))
 clear hlt hx;generalize BN x=zs at *;obtain⟨k,a,d,n,t⟩:=x;simp only[ndV]at cI aS xM hz1 bu ⊢;obtain⟨s,hs⟩:∃s:ByteArray,s=⟨t.toArray⟩:=⟨_,rfl⟩;have hst:str t= .string s:=by rw[hs];rfl
 rw[hst]at cI xM ⊢;clear hs hst;obtain⟨A,c,rfl⟩:=h.row.shape;clear h;have ag:=J (Blk.new w 95 #[.int .i64 k,.int .i64 a,.int .i64 d,.int .i64 n,.string s]);have au:=J ((Ext.refl w).alloc (.cells #[.int .i64 k,.int .i64 a,.int .i64 d,.int .i64 n,.string s] 95));obtain⟨w1,aT⟩:∃w1,w1=w.alloc (.cells #[.int .i64 k,.int .i64 a,.int .i64 d,.int .i64 n,.string s] 95):=⟨_,rfl⟩;rw[<-aT]at ag au;have q0:=ag.o.five;obtain⟨m,hm⟩:∃m,m=zs.length:=⟨_,rfl⟩;rw[<-hm]at aS hz1 bu hal dH;have WS:=J hm;clear hm;have h3:(m=0/\a=0/\d=0)\/(m=1/\d=0)\/m=2:=by
  have:m=0\/m=1\/m=2:=by omega
  rcases this with h|h|h
  ·exact .inl ⟨h,hz1 (by omega),bu (by omega)⟩
  ·exact .inr (.inl ⟨h,bu (by omega)⟩)
  ·exact .inr (.inr h)
 clear hz1 bu hal;rcases h3 with ⟨rfl,rfl,rfl⟩|⟨rfl,rfl⟩|rfl
 ·rw[show ((0:Nat):Int)=0 from rfl]at aS;go_enter Tryz.func180,Tryz.ntmps180;go_upto_region 1 with fail;rw[<-aT];clear aT;go_wp2_with fail;refine(aS.o _).mono ?_
  rintro e w2 ⟨rfl,rfl⟩;go_wp2_with fail;refine(cI.o _).mono ?_
  rintro e w2 ⟨rfl,ah⟩;have aR:=J (au.o.trans ah);have ba:=J (ag.o.ext ah);clear q0 ah;have q0:=ba.o.five;go_wp2_with fail;refine(xM.o _).mono ?_
  rintro e w3 ⟨A3,c3,rfl,ab,pO⟩;have aE:=J (aR.o.trans ab);have pW:=J pO;rw[<-WS.o]at pW ⊢;clear q0 ab pO;go_wp2_with fail;go_loopw [39] (fun nN wr=>∃i:Nat,i<=0/\nN= .int .i64 (i:Int)/\Ext w3 wr) (fun nN _=>0-(intOf nN).toNat)
  case atStart=>exact⟨0,qaj _,rfl,Ext.refl w3⟩
  case round=>
   obtain⟨i,hi,rfl,hx⟩:=hrel;have HX:=J hx;have p7:IntKind.i64.wrap ((i:Int)+1)=(i:Int)+1:=IntWalk.i64_in _ (by omega);by_cases hlt:i<0
   ·obtain⟨b3,rfl,hb0,am,jS⟩:=pW.o (by omega);have aa:=(hx.cell am).trans (jS i hlt);have hz:=dH.o i hlt;generalize zs.getD i 0=za at *;have aG:(0:Int)<=(i:Int):=by omega
    have kH:(i:Int)<0:=by omega
    clear hx jS;go_wp2_with fail;refine(Xa.o _ (HG.o.keep (aE.o.trans HX.o)) za hz).mono ?_
    rintro e w4 ⟨rfl,bf⟩;have bE:=J (HX.o.trans bf);clear bf aa;go_wp2_with fail;go_roundw
    case rel=>exact⟨i+1,hlt,by go_num,bE.o⟩
    case measure=>simp[intOf];omega
   ·go_wp2_with fail;go_ret;exact⟨rfl,aE.o.trans HX.o⟩
 ·rw[show ((1:Nat):Int)=1 from rfl]at aS;go_enter Tryz.func180,Tryz.ntmps180;go_upto_region 1 with fail;rw[<-aT];clear aT;go_wp2_with fail;refine(aS.o _).mono ?_
  rintro e w2 ⟨rfl,rfl⟩;go_wp2_with fail;refine(cI.o _).mono ?_
  rintro e w2 ⟨rfl,ah⟩;have aR:=J (au.o.trans ah);have ba:=J (ag.o.ext ah);clear q0 ah;have q0:=ba.o.five;go_wp2_with fail;refine(xM.o _).mono ?_
  rintro e w3 ⟨A3,c3,rfl,ab,pO⟩;have aE:=J (aR.o.trans ab);have pW:=J pO;rw[<-WS.o]at pW ⊢;clear q0 ab pO;go_wp2_with fail;go_loopw [39] (fun nN wr=>∃i:Nat,i<=1/\nN= .int .i64 (i:Int)/\Ext w3 wr) (fun nN _=>1-(intOf nN).toNat)
  case atStart=>exact⟨0,qaj _,rfl,Ext.refl w3⟩
  case round=>
   obtain⟨i,hi,rfl,hx⟩:=hrel;have HX:=J hx;have p7:IntKind.i64.wrap ((i:Int)+1)=(i:Int)+1:=IntWalk.i64_in _ (by omega);by_cases hlt:i<1
   ·obtain⟨b3,rfl,hb0,am,jS⟩:=pW.o (by omega);have aa:=(hx.cell am).trans (jS i hlt);have hz:=dH.o i hlt;generalize zs.getD i 0=za at *;have aG:(0:Int)<=(i:Int):=by omega
    have kH:(i:Int)<1:=by omega
    clear hx jS;go_wp2_with fail;refine(Xa.o _ (HG.o.keep (aE.o.trans HX.o)) za hz).mono ?_
    rintro e w4 ⟨rfl,bf⟩;have bE:=J (HX.o.trans bf);clear bf aa;go_wp2_with fail;go_roundw
    case rel=>exact⟨i+1,hlt,by go_num,bE.o⟩
    case measure=>simp[intOf];omega
   ·go_wp2_with fail;go_ret;exact⟨rfl,aE.o.trans HX.o⟩
 ·rw[show ((2:Nat):Int)=2 from rfl]at aS;go_enter Tryz.func180,Tryz.ntmps180;go_upto_region 1 with fail;rw[<-aT];clear aT;go_wp2_with fail;refine(aS.o _).mono ?_
  rintro e w2 ⟨rfl,rfl⟩;go_wp2_with fail;refine(cI.o _).mono ?_
  rintro e w2 ⟨rfl,ah⟩;have aR:=J (au.o.trans ah);have ba:=J (ag.o.ext ah);clear q0 ah;have q0:=ba.o.five;go_wp2_with fail;refine(xM.o _).mono ?_
  rintro e w3 ⟨A3,c3,rfl,ab,pO⟩;have aE:=J (aR.o.trans ab);have pW:=J pO;rw[<-WS.o]at pW ⊢;clear q0 ab pO;go_wp2_with fail;go_loopw [39] (fun nN wr=>∃i:Nat,i<=2/\nN= .int .i64 (i:Int)/\Ext w3 wr) (fun nN _=>2-(intOf nN).toNat)
  case atStart=>exact⟨0,qaj _,rfl,Ext.refl w3⟩
  case round=>
   obtain⟨i,hi,rfl,hx⟩:=hrel;have HX:=J hx;have p7:IntKind.i64.wrap ((i:Int)+1)=(i:Int)+1:=IntWalk.i64_in _ (by omega);by_cases hlt:i<2
   ·obtain⟨b3,rfl,hb0,am,jS⟩:=pW.o (by omega);have aa:=(hx.cell am).trans (jS i hlt);have hz:=dH.o i hlt;generalize zs.getD i 0=za at *;have aG:(0:Int)<=(i:Int):=by omega
    have kH:(i:Int)<2:=by omega
    clear hx jS;go_wp2_with fail;refine(Xa.o _ (HG.o.keep (aE.o.trans HX.o)) za hz).mono ?_
    rintro e w4 ⟨rfl,bf⟩;have bE:=J (HX.o.trans bf);clear bf aa;go_wp2_with fail;go_roundw
    case rel=>exact⟨i+1,hlt,by go_num,bE.o⟩
    case measure=>simp[intOf];omega
   ·go_wp2_with fail;go_ret;exact⟨rfl,aE.o.trans HX.o⟩
def Hc(x:Nd)(ns:List Nd):Int:=if x∈ns then (CE x ns:Int) else-1
theorem SE{x:Nd}{ns:List Nd}{i:Nat}(hi:i<ns.length)(hx:ns[i]=x)(h:∀j (hj:j<ns.length),j<i->ns[j]≠x):Hc x ns=(i:Int):=by
 unfold Hc;rw[if_pos (by rw[<-hx];exact qaw hi),Lt hi hx h]
theorem QF{x:Nd}{ns:List Nd}(h:∀j (hj:j<ns.length),j<ns.length->ns[j]≠x):Hc x ns= -1:=by
 unfold Hc;rw[if_neg];intro hm;obtain⟨j,hj,he⟩:=qbP hm;exact h j hj hj he
theorem TU{x:Nd}{ns:List Nd}{i:Nat}(hi:i<ns.length)(h:∀j (hj:j<ns.length),j<i->ns[j]≠x)(hx:ns[i]≠x):∀j (hj:j<ns.length),j<i+1->ns[j]≠x:=by
 intro j hj x6;rcases qah j i with h1|h1
 ·exact h j hj h1
 ·obtain rfl:j=i:=by omega
  exact hx
theorem KD(B g:Nat)(w:World)(ns:List Nd)(rv:Value)(h:GrR B g w ns rv)(x:Nd):
  Calls Tryz.prog 181 #[.pointer (some ⟨g,0,none⟩),ndV x] w fun e w'=>e= .returned (.int .i64 (Hc x ns))/\Ext w w':=by
 have kl:=J (fun i hi hx h=>SE (x:=x) (ns:=ns) (i:=i) hi hx h);have iW:=J (fun h=>QF (x:=x) (ns:=ns) h);have HON:=J (fun i hi h hx=>TU (x:=x) (ns:=ns) (i:=i) hi h hx);have dz:=h.few;obtain⟨A,c,vz,kK⟩:=h.row.read;subst vz;have l8:=J kK;have HG:=J h;obtain⟨z0,z1,z2,z3,z4⟩:=x;simp only[ndV];obtain⟨tz,rY⟩:∃tz:ByteArray,tz=⟨z4.toArray⟩:=⟨_,rfl⟩;have hst:str z4= .string tz:=by rw[rY];rfl
 rw[hst];have XM:tz.toList=z4:=by rw[rY];exact ByteArray.toList_mk _
 have rm:=J XM;clear hst XM kK h rY;have ag:=J (Blk.new w 95 #[.int .i64 z0,.int .i64 z1,.int .i64 z2,.int .i64 z3,.string tz]);have au:=J ((Ext.refl w).alloc (.cells #[.int .i64 z0,.int .i64 z1,.int .i64 z2,.int .i64 z3,.string tz] 95));obtain⟨w1,aT⟩:∃w1,w1=w.alloc (.cells #[.int .i64 z0,.int .i64 z1,.int .i64 z2,.int .i64 z3,.string tz] 95):=⟨_,rfl⟩;rw[<-aT]at ag au;obtain⟨n,dZ⟩:∃n,n=ns.length:=⟨_,rfl⟩;have HN:=J dZ;rw[<-dZ]at dz;rw[<-dZ]at HG;have mm:=(HG.o.keep au.o).blk.cell 0;go_enter Tryz.func181,Tryz.ntmps181;go_upto_region 1 with fail;rw[<-aT];clear aT dZ;obtain⟨k0,_,eC⟩:=(HG.o.keep au.o).blk.oneG;clear mm;go_wp2_with fail;go_loopw [12] (fun rG wr=>∃i:Nat,i<=n/\rG= .int .i64 (i:Int)/\Hid (∀j (hj:j<ns.length),j<i->ns[j]≠⟨z0,z1,z2,z3,z4⟩)/\Ext w1 wr) (fun rG _=>n-(intOf rG).toNat)
 case atStart=>exact⟨0,qaj _,rfl,J (fun j _ hj=>by omega),Ext.refl w1⟩
 case round=>
  obtain⟨i,hi,rfl,kq,hx⟩:=hrel;have HX:=J hx;have p7:IntKind.i64.wrap ((i:Int)+1)=(i:Int)+1:=IntWalk.i64_in _ (by omega);by_cases hlt:i<n
  ·have hit:i<ns.length:=by rw[<-HN.o];exact hlt
   obtain⟨gb,o,rfl,eU,hc⟩:=l8.o (by have:=HN.o;omega);obtain⟨p0,p1,p2,p3,p4⟩:=hc i hit;have aI:=au.o.trans hx;rw[<-aI.cell eU]at p0 p1 p2 p3 p4;have aC:gb<wr.heap.size:=qan eU aI.size;have bF:=J (fun he=>kl.o i hit he kq.o);have iT:=J (fun he=>HON.o i hit kq.o he);have aG:(0:Int)<=(i:Int):=by omega
   have kH:(i:Int)<(n:Int):=by omega
   clear hc aI hx;generalize ns[i]=x at *;clear hit;obtain⟨y0,y1,y2,y3,y4⟩:=x;simp only at p0 p1 p2 p3 p4;have nZ:str y4= .string ⟨y4.toArray⟩:=rfl;rw[nZ]at p4;have XN:(⟨y4.toArray⟩:ByteArray).toList=y4:=ByteArray.toList_mk _;have WA:=J XN;clear nZ XN;have YU:=J (Blk.new wr 95 #[.int .i64 y0,.int .i64 y1,.int .i64 y2,.int .i64 y3,.string ⟨y4.toArray⟩]);have YT:=J ((Ext.refl wr).alloc (.cells #[.int .i64 y0,.int .i64 y1,.int .i64 y2,.int .i64 y3,.string ⟨y4.toArray⟩] 95));obtain⟨wy,zg⟩:∃wy,wy=wr.alloc (.cells #[.int .i64 y0,.int .i64 y1,.int .i64 y2,.int .i64 y3,.string ⟨y4.toArray⟩] 95):=⟨_,rfl⟩;rw[<-zg]at YU YT;go_upto_region 4 with fail;rw[<-zg];clear zg p0 p1 p2 p3 p4;have tD:=J (HX.o.trans YT.o);have q0:=(ag.o.ext tD.o).five;have r0:=YU.o.five;by_cases e0:y0=z0
   case neg=>
    have b0:(y0 == z0)=false:=by rw[beq_eq_false_iff_ne];exact e0
    have c0:(y0 != z0)=true:=by rw[bne_iff_ne];exact e0
    have eP:=J (iT.o (fun he=>e0 (by injection he)));clear e0 bF iT;generalize (⟨y4.toArray⟩:ByteArray)=ty at *;go_wp2_with fail;go_roundw
    case rel=>exact⟨i+1,by omega,by go_num,eP.o,tD.o⟩
    case measure=>simp[intOf];omega
   case pos=>
    subst e0;by_cases e1:y1=z1
    case neg=>
     have b1:(y1 == z1)=false:=by rw[beq_eq_false_iff_ne];exact e1
     have c1:(y1 != z1)=true:=by rw[bne_iff_ne];exact e1
     have eP:=J (iT.o (fun he=>e1 (by injection he)));clear e1 bF iT;generalize (⟨y4.toArray⟩:ByteArray)=ty at *;go_wp2_with fail;go_roundw
     case rel=>exact⟨i+1,by omega,by go_num,eP.o,tD.o⟩
     case measure=>simp[intOf];omega
    case pos=>
     subst e1;by_cases e2:y2=z2
     case neg=>
      have b2:(y2 == z2)=false:=by rw[beq_eq_false_iff_ne];exact e2
      have c2:(y2 != z2)=true:=by rw[bne_iff_ne];exact e2
      have eP:=J (iT.o (fun he=>e2 (by injection he)));clear e2 bF iT;generalize (⟨y4.toArray⟩:ByteArray)=ty at *;go_wp2_with fail;go_roundw
      case rel=>exact⟨i+1,by omega,by go_num,eP.o,tD.o⟩
      case measure=>simp[intOf];omega
     case pos=>
      subst e2;by_cases e3:y3=z3
      case neg=>
       have b3:(y3 == z3)=false:=by rw[beq_eq_false_iff_ne];exact e3
       have c3:(y3 != z3)=true:=by rw[bne_iff_ne];exact e3
       have eP:=J (iT.o (fun he=>e3 (by injection he)));clear e3 bF iT;generalize (⟨y4.toArray⟩:ByteArray)=ty at *;go_wp2_with fail;go_roundw
       case rel=>exact⟨i+1,by omega,by go_num,eP.o,tD.o⟩
       case measure=>simp[intOf];omega
      case pos=>
       subst e3;by_cases e4:y4=z4
       case neg=>
        have b4:((⟨y4.toArray⟩:ByteArray).toList == (tz:ByteArray).toList)=false:=by rw[WA.o,rm.o,beq_eq_false_iff_ne];exact e4
        have c4:((⟨y4.toArray⟩:ByteArray).toList != (tz:ByteArray).toList)=true:=by rw[WA.o,rm.o,bne_iff_ne];exact e4
        have eP:=J (iT.o (fun he=>e4 (by injection he)));clear e4 bF iT;generalize (⟨y4.toArray⟩:ByteArray)=ty at *;go_wp2_with fail;go_roundw
        case rel=>exact⟨i+1,by omega,by go_num,eP.o,tD.o⟩
        case measure=>simp[intOf];omega
       case pos=>
        subst e4;have b4:((⟨y4.toArray⟩:ByteArray).toList == (tz:ByteArray).toList)=true:=by rw[WA.o,rm.o,beq_self_eq_true]
        have lM:=J (bF.o rfl);generalize (⟨y4.toArray⟩:ByteArray)=ty at *;clear bF iT;go_wp2_with fail;go_ret;exact⟨by rw[lM.o];rfl,au.o.trans tD.o⟩
  ·obtain rfl:i=n:=by omega
   have HE:=J (iW.o (fun j hj _=>kq.o j hj (by rw[HN.o];exact hj)));clear hx;go_wp2_with fail;go_ret;exact⟨by rw[HE.o];rfl,au.o.trans HX.o⟩
def J8(B g:Nat)(ns:List Nd)(rv:Value)(x:Nd)(w:World)(e:Ending)(w':World):Prop:=
 ∃rv',e= .returned (.tuple #[.int .i64 ((Bs ns x).1:Int),.int .i64 0])/\KG g g rv rv' w w'/\GrR B g w' (Bs ns x).2 rv'
theorem Rz(B g:Nat)(w:World)(ns:List Nd)(rv:Value)(h:GrR B g w ns rv)(x:Nd)(hx:CF ns.length x)(hin:x∈ns):
  Calls Tryz.prog 138 #[.pointer (some ⟨g,0,none⟩),ndV x] w (J8 B g ns rv x w):=by
 have fP:=J (fun W h=>KC B g W ns rv h x hx);have iW:=J (fun W h=>KD B g W ns rv h x);have wv:Hc x ns=(CE x ns:Int):=by unfold Hc;rw[if_pos hin]
 rw[wv]at iW;have HG:=J h;have fX:(Bs ns x).1=CE x ns:=by unfold Bs;rw[if_pos hin]
 have fi:(Bs ns x).2=ns:=by unfold Bs;rw[if_pos hin]
 have tW:=J fX;have tV:=J fi;clear fX fi hin wv hx;obtain⟨A,c,rfl⟩:=h.row.shape;clear h;generalize hpl:CE x ns=pl at *;clear hpl;obtain⟨k,a,d,n,t⟩:=x;simp only[ndV]at fP iW ⊢;obtain⟨s,hs⟩:∃s:ByteArray,s=⟨t.toArray⟩:=⟨_,rfl⟩;have hst:str t= .string s:=by rw[hs];rfl
 rw[hst]at fP iW ⊢;clear hs hst;have ag:=J (Blk.new w 95 #[.int .i64 k,.int .i64 a,.int .i64 d,.int .i64 n,.string s]);have au:=J ((Ext.refl w).alloc (.cells #[.int .i64 k,.int .i64 a,.int .i64 d,.int .i64 n,.string s] 95));obtain⟨w1,aT⟩:∃w1,w1=w.alloc (.cells #[.int .i64 k,.int .i64 a,.int .i64 d,.int .i64 n,.string s] 95):=⟨_,rfl⟩;rw[<-aT]at ag au;have q0:=ag.o.five;have hpl0:(0:Int)<=(pl:Int):=by omega
 go_enter Tryz.func138,Tryz.ntmps138;go_upto_region 1 with fail;rw[<-aT];clear aT;go_wp2_with fail;refine(fP.o w1 (HG.o.keep au.o)).mono ?_
 rintro e w2 ⟨rfl,ah⟩;have aR:=J (au.o.trans ah);have ba:=J (ag.o.ext ah);clear q0 ah;have q0:=ba.o.five;go_wp2_with fail;refine(iW.o w2 (HG.o.keep aR.o)).mono ?_
 rintro e w3 ⟨rfl,ab⟩;have aE:=J (aR.o.trans ab);clear q0 ab;go_wp2_with fail;go_ret2;refine⟨_,by rw[tW.o];rfl,KG.of_ext aE.o,?_⟩;rw[tV.o];exact HG.o.keep aE.o
theorem RB(B g:Nat)(w:World)(ns:List Nd)(rv:Value)(h:GrR B g w ns rv)(x:Nd)(hx:CF ns.length x)(hin:x∉ns)(bK:ns.length<4096):
  Calls Tryz.prog 138 #[.pointer (some ⟨g,0,none⟩),ndV x] w (J8 B g ns rv x w):=by
 have fP:=J (fun W h=>KC B g W ns rv h x hx);have iW:=J (fun W h=>KD B g W ns rv h x);have wv:Hc x ns= -1:=by unfold Hc;rw[if_neg hin]
 rw[wv]at iW;have HG:=J h;have fX:(Bs ns x).1=ns.length:=by unfold Bs;rw[if_neg hin]
 have fi:(Bs ns x).2=ns++[x]:=by unfold Bs;rw[if_neg hin]
 have gN:Hid (AK (ns++[x])):=J (by rw[<-fi];exact h.ok.put hx);have tW:=J fX;have tV:=J fi;clear fX fi hin wv hx;have fS:=h.lo;have qK:=J h.apart2;have Vt:=h.lt;obtain⟨A,c,rfl⟩:=h.row.shape;clear h;obtain⟨i0,hi,aD,hz1,bu⟩:=info_parts EP;obtain⟨k,a,d,n,t⟩:=x;simp only[ndV]at fP iW ⊢;obtain⟨s,hs⟩:∃s:ByteArray,s=⟨t.toArray⟩:=⟨_,rfl⟩;have qu:Hid (ndC ⟨k,a,d,n,t⟩=[.int .i64 k,.int .i64 a,.int .i64 d,.int .i64 n,.string s]):=J (by rw[hs];rfl);have hst:str t= .string s:=by rw[hs];rfl
 rw[hst]at fP iW ⊢;clear hs hst;have ag:=J (Blk.new w 95 #[.int .i64 k,.int .i64 a,.int .i64 d,.int .i64 n,.string s]);have au:=J ((Ext.refl w).alloc (.cells #[.int .i64 k,.int .i64 a,.int .i64 d,.int .i64 n,.string s] 95));obtain⟨w1,aT⟩:∃w1,w1=w.alloc (.cells #[.int .i64 k,.int .i64 a,.int .i64 d,.int .i64 n,.string s] 95):=⟨_,rfl⟩;have cB:w1.heap.size=w.heap.size+1:=by rw[aT];simp
 rw[<-aT]at ag au;have q0:=ag.o.five;have pM:decide ((ns.length:Int)>=4096)=false:=decide_eq_false (by omega);have hd5:decide (4096<=(ns.length:Int))=false:=decide_eq_false (by omega);go_enter Tryz.func138,Tryz.ntmps138;go_upto_region 1 with fail;rw[<-aT];clear aT;go_wp2_with fail;refine(fP.o w1 (HG.o.keep au.o)).mono ?_
 rintro e w2 ⟨rfl,ah⟩;have aR:=J (au.o.trans ah);have ba:=J (ag.o.ext ah);clear q0 ah;have q0:=ba.o.five;go_wp2_with fail;refine(iW.o w2 (HG.o.keep aR.o)).mono ?_
 rintro e wA ⟨rfl,ab⟩;have bq:=J (aR.o.trans ab);have yF:=J (ba.o.ext ab);have pr:=J (HG.o.keep bq.o);have XS:w.heap.size<wA.heap.size:=by have h1:=ab.size;have h2:=ba.o.lt;omega
 clear q0 ab;have q0:=yF.o.five;obtain⟨k0,f0,eC⟩:=pr.o.blk.oneG;go_upto_region 8 with fail;have jY:Hid (∀w':World,(wA.alloc (.cells #[.int .i64 k,.int .i64 a,.int .i64 d,.int .i64 n,.string s] 95)).drew.grownBy w' (Value.slice A ns.length c).ownBlock->Blk w' g 71 #[.slice A ns.length c]/\wA.grownBy w' (Value.slice A ns.length c).ownBlock):=J (fun w' aC=>by
  have lE:wA.grownBy w' (Value.slice A ns.length c).ownBlock:=by
   refine⟨aC.os,aC.tape,aC.output,?_,fun i h1 h2=> ?_⟩
   ·have:=aC.size;simp only[World.size_drew,World.size_alloc]at this;omega
   ·exact(aC.block i (by simp only[World.size_drew,World.size_alloc];omega) h2).trans (Below.heap_alloc wA _ i h1)
  exact⟨(lE.block g eC (fun e=>qK.o e.symm)).trans pr.o.blk,lE⟩)
 have dc:Hid (∀(j:Nat) (u:Value),[.int .i64 k,.int .i64 a,.int .i64 d,.int .i64 n,.string s][j]? =some u->(wA.alloc (.cells #[.int .i64 k,.int .i64 a,.int .i64 d,.int .i64 n,.string s] 95)).drew.cell? ((⟨wA.heap.size,0,none⟩:Addr).add j)=some u):=J (fun j u hj=>by
  have h1:=(Blk.new wA 95 #[.int .i64 k,.int .i64 a,.int .i64 d,.int .i64 n,.string s]).drew.cell j;have h2:(⟨wA.heap.size,0,none⟩:Addr).add j=⟨wA.heap.size,j,none⟩:=by
   unfold Addr.add;split
   ·rename_i h;subst h;rfl
   ·simp
  rw[h2,h1,<-hj];simp)
 have ec:Hid ((wA.alloc (.cells #[.int .i64 k,.int .i64 a,.int .i64 d,.int .i64 n,.string s] 95)).drew.ownsRow B 95 5 (.slice A ns.length c) ns.length (BR ns)):=J (Ah pr.o.row (fun k _ hk=>Below.heap_alloc wA _ k hk));have jz:Hid (ns.length+1<=maxLen):=J (by unfold maxLen;omega);have eP:Hid ((ns.length+1)*48<=140737488355328):=J (by omega);have tY:Hid (B<=(wA.alloc (.cells #[.int .i64 k,.int .i64 a,.int .i64 d,.int .i64 n,.string s] 95)).drew.heap.size):=J (by simp only[World.size_drew,World.size_alloc];omega)
 go_region_law (refine step_append_lies _ rfl (.tmp 27) (.tmp 29) 32 rfl B 95 i0 _ 5 48 Tryz.underlying32 hi aD hz1 bu rfl (by decide) _ ns.length (BR ns) rfl ec.o ⟨wA.heap.size,0,none⟩ 1 1 [.int .i64 k,.int .i64 a,.int .i64 d,.int .i64 n,.string s] rfl rfl dc.o (by simp[Value.oneCell']) (by decide) jz.o eP.o tY.o _ rfl ?_;intro g' c' w' al aC hat hlt;have qB:=J al;have eQ:=J (jY.o w' aC);have gy:=J hat;clear al aC hat;have m0:=eQ.o.1.oneG)
 all_goals
  have vM:g'≠g:=by
   rcases gy.o with h4|h4
   ·exact fun e=>qK.o (h4.trans (congrArg some e))
   ·simp only[World.size_drew,World.size_alloc]at h4;omega
  have eG:=eQ.o.1.set_ 0 (.slice (some ⟨g',0,none⟩) (ns.length+1) c');have bc:=Cp (w':=w'.setCell ⟨g,0,none⟩ (.slice (some ⟨g',0,none⟩) (ns.length+1) c')) qB.o (fun k hk=>Below.heap_setCell _ _ _ k (by
   simp only[Value.ownBlock,qar]at hk;show k≠g;omega))
  have fd:∀k,k<w.heap.size->k≠g->(Value.slice A ns.length c).ownBlock≠some k->(w'.setCell ⟨g,0,none⟩ (.slice (some ⟨g',0,none⟩) (ns.length+1) c')).heap[k]? =w.heap[k]? :=fun k h1 h2 h3=>
   (Below.heap_setCell _ _ _ k h2).trans ((eQ.o.2.block k (by omega) (fun e=>h3 e.symm)).trans (bq.o.block k h1))
  have vE:(w'.setCell ⟨g,0,none⟩ (.slice (some ⟨g',0,none⟩) (ns.length+1) c')).os=w.os/\(w'.setCell ⟨g,0,none⟩ (.slice (some ⟨g',0,none⟩) (ns.length+1) c')).tape=w.tape/\(w'.setCell ⟨g,0,none⟩ (.slice (some ⟨g',0,none⟩) (ns.length+1) c')).output=w.output/\wA.heap.size<=(w'.setCell ⟨g,0,none⟩ (.slice (some ⟨g',0,none⟩) (ns.length+1) c')).heap.size:=by
   have h2:=Below.setCell (Below.refl g w') (p:=⟨g,0,none⟩) (qab _) (.slice (some ⟨g',0,none⟩) (ns.length+1) c');have h4:=eQ.o.2;exact⟨h2.os.trans (h4.os.trans bq.o.os),h2.tape.trans (h4.tape.trans bq.o.tape),h2.output.trans (h4.output.trans bq.o.output),qae h4.size h2.size⟩
  generalize (w'.setCell ⟨g,0,none⟩ (.slice (some ⟨g',0,none⟩) (ns.length+1) c'))=wB at *;have qG:=J eG;have gf:=J bc;have uo:=J fd;have mZ:=J vE;clear q0 k0 f0 m0 bc fd vE;obtain⟨k0,f0,wk⟩:=Blk.oneG eG;clear eG;have aT:IntKind.i64.wrap ((ns.length:Int)+1-1)=(ns.length:Int):=by rw[IntKind.wrap_i64];omega
  have bQ:IntKind.i64.wrap (((ns.length+1:Nat):Int)-1)=(ns.length:Int):=by rw[IntKind.wrap_i64];omega
  go_wp2_with fail;go_ret2;have ZX:=mZ.o.2.2.2;refine⟨(.slice (some ⟨g',0,none⟩) (ns.length+1) c'),by rw[tW.o];rfl,⟨mZ.o.1,mZ.o.2.1,mZ.o.2.2.1,by omega,fun k h1 h2 h3 h4=>uo.o k h1 h2 h4,fun j hj=> ?_⟩,?_⟩
  ·have h5:g'=j:=qbh hj;rcases gy.o with h4|h4
   ·exact .inl (h4.trans (congrArg some h5))
   ·simp only[World.size_drew,World.size_alloc]at h4;exact .inr (by omega)
  ·rw[tV.o];refine⟨qG.o,?_,fS,gN.o,by simp only[qac,qal];omega⟩;unfold AB;rw[Dc,EM,qu.o,qac,qal];exact gf.o
theorem RC(B g:Nat)(w:World)(ns:List Nd)(rv:Value)(h:GrR B g w ns rv)(x:Nd)(hx:CF ns.length x)(bK:ns.length<4096):
  Calls Tryz.prog 138 #[.pointer (some ⟨g,0,none⟩),ndV x] w (J8 B g ns rv x w):=by
 by_cases hin:x∈ns
 ·exact Rz B g w ns rv h x hx hin
 ·exact RB B g w ns rv h x hx hin bK
theorem BH.shape{B n:Nat}{w:World}{v:Value}{S:List Nat}(h:BH B w v n S):∃A c,v= .slice A n c:=Aw h
theorem BH.pos{B n:Nat}{w:World}{v:Value}{S:List Nat}(h:BH B w v n S)(hn:0<n):∃g c,v= .slice (some ⟨g,0,none⟩) n c:=by
 rcases h.2 with ⟨_,h2⟩|⟨g,cap,cur,hv,_⟩
 ·omega
 ·exact⟨g,cap,hv⟩
theorem BH.nil(B:Nat)(w:World):BH B w (.slice none 0 0) 0 []:=World.ownsRow_nil w B _ 1
def Fj(B g:Nat)(ns:List Nd)(rv:Value)(e:Ex)(w:World)(i:Nat)(at_:Value)(wr:World):Prop:=
 ∃rv',KG g g rv rv' w wr/\GrR B g wr (BP ([],ns) ((Ak 0 e).take i)).2 rv'/\BH w.heap.size wr at_ i (BP ([],ns) ((Ak 0 e).take i)).1/\Ez rv' at_
theorem Fj.start{B g:Nat}{ns:List Nd}{rv:Value}{e:Ex}{w w1:World}(h:GrR B g w ns rv)(hx:Ext w w1):Fj B g ns rv e w 0 (.slice none 0 0) w1:=
 ⟨rv,KG.of_ext hx,by rw[qbw];exact h.keep hx,by rw[qbw];exact BH.nil _ _,fun _ _ h2=>by cases h2⟩
theorem Fj.next {B g i g6:Nat} {ns gs:List Nd} {rv rv1 rv2:Value} {e:Ex} {w wr w1 w2 w6:World} {at_ at2:Value} {bL:List Nat} {o:Obj} {x:Nd} (h0:GrR B g w ns rv)
  (hst:BP ([],ns) ((Ak 0 e).take (i+1))=(bL++[(Bs gs (B8 bL x)).1],(Bs gs (B8 bL x)).2))
  (h1:KG g g rv rv1 w wr) (ha:Ez rv1 at_) (hr:BH w.heap.size wr at_ i bL) (hx:Ext wr w1) (hk:KG g g rv1 rv2 w1 w2) (hp:GrR B g w2 (Bs gs (B8 bL x)).2 rv2)
  (aC:(w2.alloc o).grownBy w6 at_.ownBlock) (hat:at_.ownBlock=some g6\/g6=(w2.alloc o).heap.size) (hu:at2.ownBlock=some g6)
  (hn:BH w.heap.size w6 at2 (i+1) (bL++[(Bs gs (B8 bL x)).1])):Fj B g ns rv e w (i+1) at2 w6:=by
 have hs:(w2.alloc o).heap.size=w2.heap.size+1:=by simp
 have eU:=h0.lt;have fJ:=(KG.of_ext hx).trans hk;have cA:=h1.size;have lz:=fJ.size;have pP:at_.ownBlock≠some g:=fun he=>by have:=(hr.blt g he).1;omega
 have gc:∀j,rv2.ownBlock=some j->at_.ownBlock≠some j:=fun j hj he=>by
  rcases fJ.move j hj with h5|h5
  ·exact ha j h5 he
  ·have:=(hr.blt j he).2;omega
 have eB:∀j,j<w2.heap.size->at_.ownBlock≠some j->w6.heap[j]? =w2.heap[j]? :=fun j hj hne=>(aC.block j (by omega) (fun e=>hne e.symm)).trans (Below.heap_alloc w2 o j hj)
 have vu:=aC.size;have sP:=hp.lt;refine⟨rv2,?_,?_,?_,?_⟩
 ·have k2:=h1.trans fJ;refine⟨aC.os.trans k2.os,aC.tape.trans k2.tape,aC.output.trans k2.output,by omega,fun k p1 p2 p3 p4=>(eB k (by have:=k2.size;omega) (fun he=>by have:=(hr.blt k he).1;omega)).trans (k2.block k p1 p2 p3 p4),k2.move⟩
 ·rw[hst];exact⟨(eB g sP pP).trans hp.blk,Cp hp.row (fun k hk'=>eB k (BV hp.row hk') (gc k hk')),hp.lo,hp.ok,hp.few⟩
 ·rw[hst];exact hn
 ·intro j hj he;rw[hu]at he;injection he with he
  subst he;rcases hat with h5|h5
  ·exact gc g6 hj h5
  ·have:=BV hp.row hj;omega
def Ng(B g:Nat)(ns:List Nd)(rv:Value)(e:Ex)(w:World)(r:Ending)(w':World):Prop:=
 ∃(rv':Value) (gi ci:Nat) (more:List Nat),r= .returned (.tuple #[.slice (some ⟨gi,0,none⟩) e.size ci,.int .i64 0])/\more.length+1=e.size/\w'.cell? ⟨gi,more.length,none⟩=some (.int .i64 ((Br ns e).1:Int))/\KG g g rv rv' w w'/\GrR B g w' (Br ns e).2 rv'
theorem RG(B g:Nat)(w:World)(ns:List Nd)(rv v:Value)(e:Ex)(h:GrR B g w ns rv)(hv:DK g g rv w v (Ak 0 e))(jg:e.Good)(cA:e.size<=200)(jR:e.depth<=40)(bK:ns.length+e.size<=4096):
  Calls Tryz.prog 79 #[.pointer (some ⟨g,0,none⟩),v] w (Ng B g ns rv e w):=by
 have jV:=J (Kr w v (Ak 0 e) hv.read (by rw[AD];omega) (H8 e jg 0));rw[Ih e jg,decide_eq_true ⟨cA,jR⟩]at jV;have HG:=J h;have HV:=J hv;obtain⟨i0,St,aD,hz1,bu⟩:=info_parts JT;obtain⟨n,hn⟩:∃n,n=e.size:=⟨_,rfl⟩;have mo:=AD e 0;obtain⟨A1,c1,rfl,_⟩:=hv;rw[mo,<-hn]at jV HV ⊢;unfold Ng;rw[<-hn];have HN:=J hn;have jF:=J mo;have dN:1<=n:=by rw[hn];exact e.size_pos
 have hn2:n<=200:=by omega
 obtain⟨A,c,rfl⟩:=h.row.shape;have jE:=J jg;have WI:=J bK;have k0:=h.blk.oneG;clear h hn mo jg cA jR bK k0;go_enter Tryz.func79,Tryz.ntmps79;go_wp2_with fail;refine jV.o.mono ?_
 rintro r w1 ⟨rfl,ak⟩;have au:=J ak;have k0:=(HG.o.keep ak).blk.oneG;clear ak;have aT:∀i:Nat,i<n->IntKind.i64.wrap ((i:Int)+1)=(i:Int)+1:=fun i hi=>IntWalk.i64_in _ (by omega)
 have Wy:=J aT;clear aT;go_wp2_with fail;go_loopw [7,22] (fun s7 yO wr=>∃i:Nat,i<=n/\yO= .int .i64 (i:Int)/\Fj B g ns (.slice A ns.length c) e w i s7 wr) (fun _ yO _=>n-(intOf yO).toNat)
 case atStart=>exact⟨0,qaj _,rfl,Fj.start HG.o au.o⟩
 case round=>
  obtain⟨i,hi,rfl,a9⟩:=hrel;by_cases hlt:i<n
  ·obtain⟨bO,lB,aC,bc,gc⟩:=a9;have uF:i<e.size:=by rw[<-HN.o];exact hlt
   have hl:i<(Ak 0 e).length:=by rw[AD];exact uF
   have mR:=FG.at HG.o.ok jE.o i (qaK uF);have aA:=H9 e jE.o 0 i _ (qad hl);rw[qaW]at aA;have jn:=JP mR aA;have sW:=mR.big;have aH:=mR.len;have eU:=HG.o.lt;have mS:=HV.o.keep lB;have bF:=J (Gp ([],ns) (Ak 0 e) i hl);obtain⟨A2,c2,he2,df⟩:=mS;obtain⟨q,o,hA,hq,p2,p3,p4,cZ⟩:=df (by omega);obtain⟨y0,y1,y2,y3,y4⟩:=cZ i hl;simp only[Value.slice.injEq]at he2;obtain⟨rfl,i3,rfl⟩:=he2;clear i3;subst hA;have kH:(i:Int)<(n:Int):=by omega
   have aG:(0:Int)<=(i:Int):=by omega
   have p7:=Wy.o i hlt;clear df cZ p4;generalize hst:BP ([],ns) (List.take i (Ak 0 e))=st at *;clear hst;obtain⟨bL,gs⟩:=st;simp only at aC bc aH mR jn sW;rw[GD]at bF;simp only at bF;have xN:=gc;have ia:=J (fun rv2 w1 w2 w6 at2 g6 o hx hk hp aC hat hu hn=>Fj.next (rv2:=rv2) (w1:=w1) (w2:=w2) (w6:=w6) (at2:=at2) (g6:=g6) (o:=o) HG.o bF.o lB gc bc hx hk hp aC hat hu hn);have bG:=J (fun W h=>RC B g W gs bO h _ jn (by have:=WI.o;omega));obtain⟨A3,c3,rfl⟩:=bc.shape;have kI:∀j,j<i->∃ga,A3=some ⟨ga,0,none⟩/\ga<wr.heap.size/\wr.cell? ⟨ga,j,none⟩=some (.int .i64 ((bL.getD j 0:Nat):Int)):=fun j hj=>by
    obtain⟨ga,ca,he⟩:=bc.pos (by omega);injection he with he1 he2 he3
    subst he1;exact⟨ga,rfl,(bc.blt ga rfl).2,bc.get j hj⟩
   have mz:=J kI;have jw:=J bc;have fu:=J aC;have xz:=J lB;have hszk:=lB.size;have jT:=aA.args_len;have hO:=J aA.oper;clear kI bc aC lB gc mR jn bF;generalize (Ak 0 e)[i]=x at *;clear hl;have kp:Hid (Ez bO (.slice A3 i c3)):=J xN;clear xN;rcases aA with ⟨k,t,rfl,ho⟩|⟨k,nn,j,rfl,ho,hj⟩|⟨k,j,jq,rfl,hk,hj,wj⟩
   ·have kE:B8 bL ⟨(k:Int),0,0,0,t⟩=⟨(k:Int),0,0,0,t⟩:=by
     have:=ho.lt;unfold B8;rw[if_neg (by simp only;omega),if_neg (by simp only;omega)]
    rw[kE]at bG ia;rw[CP ho]at hO;simp only at hO;have aS:=J (fun W=>Bv W (k:Int));rw[hO.o]at aS;clear kE ho hO;simp only[ndV]at bG;simp only at y0 y1 y2 y3 y4;generalize hkk:(k:Int)=kk at *;obtain⟨s,hs⟩:∃s:ByteArray,s=⟨(t:List UInt8).toArray⟩:=⟨_,rfl⟩;have hst:str t= .string s:=by rw[hs];rfl
    rw[hst]at y4 bG;clear hs hst hkk;have dl:=J (Blk.new wr 95 #[.int .i64 kk,.int .i64 0,.int .i64 0,.int .i64 0,.string s]);have db:=J ((Ext.refl wr).alloc (.cells #[.int .i64 kk,.int .i64 0,.int .i64 0,.int .i64 0,.string s] 95));obtain⟨w7,ev⟩:∃w7,w7=wr.alloc (.cells #[.int .i64 kk,.int .i64 0,.int .i64 0,.int .i64 0,.string s] 95):=⟨_,rfl⟩;rw[<-ev]at dl db;have q0:=dl.o.five;go_upto_region 8 with fail;rw[<-ev];clear ev y0 y1 y2 y3 y4;go_wp2_with fail;refine(aS.o _).mono ?_
    rintro r w8 ⟨rfl,rfl⟩;go_wp2_with fail;refine(aS.o _).mono ?_
    rintro r w9 ⟨rfl,rfl⟩;go_wp2_with fail;refine(bG.o w7 (fu.o.keep db.o)).mono ?_
    rintro r eM ⟨nv2,rfl,dx,eE⟩;have po:=J dx;have pt:=J eE;have iL:=(KG.of_ext db.o).trans dx;have iD:wr.heap.size<=eM.heap.size:=iL.size;have ez:BH w.heap.size eM (.slice A3 i c3) i bL:=Cp jw.o (fun k hk=>iL.block k (BV jw.o hk) (fun e=>by have:=(jw.o.blt k hk).1;omega) (fun e=>by have:=(jw.o.blt k hk).1;omega) (fun e=>kp.o k e hk));have kP:=J ez;clear iL ez dx eE q0;have iX:=J (fun w6 at2 g6 o aC hat hu hn=>ia.o nv2 w7 eM w6 at2 g6 o db.o po.o pt.o aC hat hu hn);generalize (Bs gs _).1=pid at *;have bN:Hid (i+1<=maxLen):=J (by unfold maxLen;omega);have bM:Hid ((i+1)*8<=140737488355328):=J (by omega);have fE:Hid ((eM.alloc (.cells #[.int .i64 (pid:Int)] 3)).ownsRow w.heap.size 3 1 (.slice A3 i c3) i (bL.map din)):=J (Ah kP.o (fun k _ hk=>Below.heap_alloc _ _ k hk));have dK:=J (Cd eM 3 [.int .i64 (pid:Int)]);have cD:Hid (w.heap.size<=(eM.alloc (.cells #[.int .i64 (pid:Int)] 3)).heap.size):=J (by simp;omega);go_wp2_with (at_builtin;go_must (refine wpList_append_lies _ rfl _ _ 41 rfl w.heap.size 3 i0 _ 1 8 Tryz.underlying41 St aD hz1 bu rfl (by decide) (.slice A3 i c3) i (bL.map din) rfl fE.o ⟨eM.heap.size,0,none⟩ 1 1 [.int .i64 (pid:Int)] rfl rfl dK.o (by simp[Value.oneCell']) (by decide) bN.o bM.o cD.o _ rfl ?_;intro g6 c6 w6 bw cG cP gV;have hU:Hid (BH w.heap.size w6 (.slice (some ⟨g6,0,none⟩) (i+1) c6) (i+1) (bL++[pid])):=J (by unfold BH;rw[qbc];exact bw);have xK:=J (iX.o w6 (.slice (some ⟨g6,0,none⟩) (i+1) c6) g6 _ cG cP rfl hU.o);clear bw cG cP gV));go_roundw
    case rel=>exact⟨i+1,hlt,by go_num,xK.o⟩
    case measure=>simp[intOf];omega
   ·have kE:B8 bL ⟨(k:Int),(j:Int),0,nn,[]⟩=⟨(k:Int),((bL.getD j 0:Nat):Int),0,nn,[]⟩:=by
     have:=ho.1;unfold B8;rw[if_pos (by simp only;omega),if_neg (by simp only;omega)];rfl
    rw[kE]at bG ia;rw[Cz ho]at hO;simp only at hO;have aS:=J (fun W=>Bv W (k:Int));rw[hO.o]at aS;obtain⟨ga,rfl,gE,pq⟩:=mz.o j hj;have ue:=J pq;have qj:(j:Int)<(i:Int):=by omega
    have uE:(0:Int)<=(j:Int):=by omega
    clear kE ho hj hO pq;generalize ((bL.getD j 0:Nat):Int)=va at *;simp only[ndV]at bG;simp only at y0 y1 y2 y3 y4;generalize hkk:(k:Int)=kk at *;obtain⟨s,hs⟩:∃s:ByteArray,s=⟨([]:List UInt8).toArray⟩:=⟨_,rfl⟩;have hst:str []= .string s:=by rw[hs];rfl
    rw[hst]at y4 bG;clear hs hst hkk;have dl:=J (Blk.new wr 95 #[.int .i64 kk,.int .i64 (j:Int),.int .i64 0,.int .i64 nn,.string s]);have db:=J ((Ext.refl wr).alloc (.cells #[.int .i64 kk,.int .i64 (j:Int),.int .i64 0,.int .i64 nn,.string s] 95));obtain⟨w7,ev⟩:∃w7,w7=wr.alloc (.cells #[.int .i64 kk,.int .i64 (j:Int),.int .i64 0,.int .i64 nn,.string s] 95):=⟨_,rfl⟩;rw[<-ev]at dl db;have q0:=dl.o.five;go_upto_region 8 with fail;rw[<-ev];clear ev y0 y1 y2 y3 y4;go_wp2_with fail;refine(aS.o _).mono ?_
    rintro r w8 ⟨rfl,rfl⟩;have v0:=(db.o.cell gE).trans ue.o;have f1:=dl.o.frozen 1;have pf:=J (dl.o.set_ 1 (.int .i64 va));have eV:=J (db.o.setCell (p:=⟨wr.heap.size,1,none⟩) (qab _) (.int .i64 va));have r0:=Blk.five pf.o;go_wp2_with fail;refine(aS.o _).mono ?_
    rintro r w9 ⟨rfl,rfl⟩;go_wp2_with fail;refine(bG.o (w7.setCell ⟨wr.heap.size,1,none⟩ (.int .i64 va)) (fu.o.keep eV.o)).mono ?_
    rintro r eM ⟨nv2,rfl,dx,eE⟩;have po:=J dx;have pt:=J eE;have iL:=(KG.of_ext eV.o).trans dx;have iD:wr.heap.size<=eM.heap.size:=iL.size;have ez:BH w.heap.size eM (.slice (some ⟨ga,0,none⟩) i c3) i bL:=Cp jw.o (fun k hk=>iL.block k (BV jw.o hk) (fun e=>by have:=(jw.o.blt k hk).1;omega) (fun e=>by have:=(jw.o.blt k hk).1;omega) (fun e=>kp.o k e hk));have kP:=J ez;clear iL ez dx eE q0;have iX:=J (fun w6 at2 g6 o aC hat hu hn=>ia.o nv2 (w7.setCell ⟨wr.heap.size,1,none⟩ (.int .i64 va)) eM w6 at2 g6 o eV.o po.o pt.o aC hat hu hn);generalize (Bs gs _).1=pid at *;have bN:Hid (i+1<=maxLen):=J (by unfold maxLen;omega);have bM:Hid ((i+1)*8<=140737488355328):=J (by omega);have fE:Hid ((eM.alloc (.cells #[.int .i64 (pid:Int)] 3)).ownsRow w.heap.size 3 1 (.slice (some ⟨ga,0,none⟩) i c3) i (bL.map din)):=J (Ah kP.o (fun k _ hk=>Below.heap_alloc _ _ k hk));have dK:=J (Cd eM 3 [.int .i64 (pid:Int)]);have cD:Hid (w.heap.size<=(eM.alloc (.cells #[.int .i64 (pid:Int)] 3)).heap.size):=J (by simp;omega);go_wp2_with (at_builtin;go_must (refine wpList_append_lies _ rfl _ _ 41 rfl w.heap.size 3 i0 _ 1 8 Tryz.underlying41 St aD hz1 bu rfl (by decide) (.slice (some ⟨ga,0,none⟩) i c3) i (bL.map din) rfl fE.o ⟨eM.heap.size,0,none⟩ 1 1 [.int .i64 (pid:Int)] rfl rfl dK.o (by simp[Value.oneCell']) (by decide) bN.o bM.o cD.o _ rfl ?_;intro g6 c6 w6 bw cG cP gV;have hU:Hid (BH w.heap.size w6 (.slice (some ⟨g6,0,none⟩) (i+1) c6) (i+1) (bL++[pid])):=J (by unfold BH;rw[qbc];exact bw);have xK:=J (iX.o w6 (.slice (some ⟨g6,0,none⟩) (i+1) c6) g6 _ cG cP rfl hU.o);clear bw cG cP gV));go_roundw
    case rel=>exact⟨i+1,hlt,by go_num,xK.o⟩
    case measure=>simp[intOf];omega
   ·have kE:B8 bL ⟨(k:Int),(j:Int),(jq:Int),0,[]⟩=⟨(k:Int),((bL.getD j 0:Nat):Int),((bL.getD jq 0:Nat):Int),0,[]⟩:=by
     unfold B8;rw[if_pos (by simp only;omega),if_pos (by simp only;omega)];rfl
    rw[kE]at bG ia;rw[BW hk]at hO;simp only at hO;have aS:=J (fun W=>Bv W (k:Int));rw[hO.o]at aS;obtain⟨ga,rfl,gE,pq⟩:=mz.o j hj;obtain⟨gb,dP,_,xG⟩:=mz.o jq wj;obtain rfl:ga=gb:=by injection dP with dP;injection dP
    have ue:=J pq;have Xc:=J xG;have qj:(j:Int)<(i:Int):=by omega
    have uE:(0:Int)<=(j:Int):=by omega
    have hjq1:(jq:Int)<(i:Int):=by omega
    have hjq0:(0:Int)<=(jq:Int):=by omega
    clear kE hk hj wj hO pq xG dP;generalize ((bL.getD j 0:Nat):Int)=va at *;generalize ((bL.getD jq 0:Nat):Int)=vb at *;simp only[ndV]at bG;simp only at y0 y1 y2 y3 y4;generalize hkk:(k:Int)=kk at *;obtain⟨s,hs⟩:∃s:ByteArray,s=⟨([]:List UInt8).toArray⟩:=⟨_,rfl⟩;have hst:str []= .string s:=by rw[hs];rfl
    rw[hst]at y4 bG;clear hs hst hkk;have dl:=J (Blk.new wr 95 #[.int .i64 kk,.int .i64 (j:Int),.int .i64 (jq:Int),.int .i64 0,.string s]);have db:=J ((Ext.refl wr).alloc (.cells #[.int .i64 kk,.int .i64 (j:Int),.int .i64 (jq:Int),.int .i64 0,.string s] 95));obtain⟨w7,ev⟩:∃w7,w7=wr.alloc (.cells #[.int .i64 kk,.int .i64 (j:Int),.int .i64 (jq:Int),.int .i64 0,.string s] 95):=⟨_,rfl⟩;rw[<-ev]at dl db;have q0:=dl.o.five;go_upto_region 8 with fail;rw[<-ev];clear ev y0 y1 y2 y3 y4;go_wp2_with fail;refine(aS.o _).mono ?_
    rintro r w8 ⟨rfl,rfl⟩;have v0:=(db.o.cell gE).trans ue.o;have f1:=dl.o.frozen 1;have pf:=J (dl.o.set_ 1 (.int .i64 va));have eV:=J (db.o.setCell (p:=⟨wr.heap.size,1,none⟩) (qab _) (.int .i64 va));have r0:=Blk.five pf.o;have v1:=(eV.o.cell gE).trans Xc.o;have f2:=pf.o.frozen 2;have tZ:=J (Blk.set_ pf.o 2 (.int .i64 vb));have eW:=J (eV.o.setCell (p:=⟨wr.heap.size,2,none⟩) (qab _) (.int .i64 vb));have t0:=Blk.five tZ.o;go_wp2_with fail;refine(aS.o _).mono ?_
    rintro r w9 ⟨rfl,rfl⟩;go_wp2_with fail;refine(bG.o ((w7.setCell ⟨wr.heap.size,1,none⟩ (.int .i64 va)).setCell ⟨wr.heap.size,2,none⟩ (.int .i64 vb)) (fu.o.keep eW.o)).mono ?_
    rintro r eM ⟨nv2,rfl,dx,eE⟩;have po:=J dx;have pt:=J eE;have iL:=(KG.of_ext eW.o).trans dx;have iD:wr.heap.size<=eM.heap.size:=iL.size;have ez:BH w.heap.size eM (.slice (some ⟨ga,0,none⟩) i c3) i bL:=Cp jw.o (fun k hk=>iL.block k (BV jw.o hk) (fun e=>by have:=(jw.o.blt k hk).1;omega) (fun e=>by have:=(jw.o.blt k hk).1;omega) (fun e=>kp.o k e hk));have kP:=J ez;clear iL ez dx eE q0;have iX:=J (fun w6 at2 g6 o aC hat hu hn=>ia.o nv2 ((w7.setCell ⟨wr.heap.size,1,none⟩ (.int .i64 va)).setCell ⟨wr.heap.size,2,none⟩ (.int .i64 vb)) eM w6 at2 g6 o eW.o po.o pt.o aC hat hu hn);generalize (Bs gs _).1=pid at *;have bN:Hid (i+1<=maxLen):=J (by unfold maxLen;omega);have bM:Hid ((i+1)*8<=140737488355328):=J (by omega);have fE:Hid ((eM.alloc (.cells #[.int .i64 (pid:Int)] 3)).ownsRow w.heap.size 3 1 (.slice (some ⟨ga,0,none⟩) i c3) i (bL.map din)):=J (Ah kP.o (fun k _ hk=>Below.heap_alloc _ _ k hk));have dK:=J (Cd eM 3 [.int .i64 (pid:Int)]);have cD:Hid (w.heap.size<=(eM.alloc (.cells #[.int .i64 (pid:Int)] 3)).heap.size):=J (by simp;omega);go_wp2_with (at_builtin;go_must (refine wpList_append_lies _ rfl _ _ 41 rfl w.heap.size 3 i0 _ 1 8 Tryz.underlying41 St aD hz1 bu rfl (by decide) (.slice (some ⟨ga,0,none⟩) i c3) i (bL.map din) rfl fE.o ⟨eM.heap.size,0,none⟩ 1 1 [.int .i64 (pid:Int)] rfl rfl dK.o (by simp[Value.oneCell']) (by decide) bN.o bM.o cD.o _ rfl ?_;intro g6 c6 w6 bw cG cP gV;have hU:Hid (BH w.heap.size w6 (.slice (some ⟨g6,0,none⟩) (i+1) c6) (i+1) (bL++[pid])):=J (by unfold BH;rw[qbc];exact bw);have xK:=J (iX.o w6 (.slice (some ⟨g6,0,none⟩) (i+1) c6) g6 _ cG cP rfl hU.o);clear bw cG cP gV));go_roundw
    case rel=>exact⟨i+1,hlt,by go_num,xK.o⟩
    case measure=>simp[intOf];omega
  ·obtain⟨bO,lB,aC,bc,gc⟩:=a9;obtain⟨more,ml,oD⟩:=K2 e jE.o ns;have hin:i=n:=by omega
   rw[qaf (by rw[AD,<-HN.o];omega),oD]at aC bc;simp only at aC bc;obtain⟨gi,ci,rfl⟩:=bc.pos (by omega);have aa:=bc.get more.length (by have:=HN.o;omega);rw[Dw _ _ rfl]at aa;have xz:=J lB;have fu:=J aC;have nk:=J aa;have t4:=J ml;clear lB aC bc gc oD ml aa;go_wp2_with fail;go_ret2;exact⟨bO,gi,ci,more,by rw[hin];rfl,by rw[HN.o];exact t4.o,nk.o,xz.o,fu.o⟩
def Dn(a0 B g:Nat)(w:World)(L:Value)(l:List Int)(a:Nat):Prop:=B3 B g w L l a/\a0<=a
section
variable {a0 B g:Nat} {w w':World} {L:Value} {l:List Int} {a:Nat}
theorem Dn.lt(h:Dn a0 B g w L l a):g<B:=h.1.lt
theorem Dn.blk(h:Dn a0 B g w L l a):Blk w g 129 #[L,.int .i64 (a:Int)]:=h.1.blk
theorem Dn.few(h:Dn a0 B g w L l a):l.length<=1000000:=h.1.few
theorem Dn.below(h:Dn a0 B g w L l a)(hk:Below B w w'):Dn a0 B g w' L l a:=⟨h.1.below hk,h.2⟩
theorem GV(l:List Int)(a:Nat):a<=Dm l a:=by unfold Dm;split<;>omega
end
theorem Qi{a0:Nat}(B g:Nat)(w:World)(L:Value)(l:List Int)(a:Nat)(h:Dn a0 B g w L l a):Calls Tryz.prog 76 #[.pointer (some ⟨g,0,none⟩)] w fun e w'=>e= .returned (.bool (decide (a<l.length)))/\Dr w w':=MA B g w L l a h.1
theorem H4{a0:Nat}(B g:Nat)(w:World)(L:Value)(l:List Int)(a:Nat)(n:Int)(h:Dn a0 B g w L l a)(hn:1<=n)(hn2:n<=4611686018427387904):Calls Tryz.prog 78 #[.pointer (some ⟨g,0,none⟩),.int .i64 n] w fun e w'=>e= .returned (.int .i64 (CM l a n))/\Dn a0 B g w' L l (Dm l a)/\(∀B',KB B' g w w'):=
 (GR B g w L l a n h.1 hn hn2).mono fun _ _ ⟨h1,h2,h3⟩=>⟨h1,⟨h2,qae h.2 (GV l a)⟩,h3⟩
theorem Js{a0:Nat}(B g:Nat)(w:World)(L:Value)(l:List Int)(a:Nat)(lo hi:Int)(h:Dn a0 B g w L l a)(h1:lo<=hi)(h2: -1000000<=lo)(h3:hi<=1000000):Calls Tryz.prog 77 #[.pointer (some ⟨g,0,none⟩),.int .i64 lo,.int .i64 hi] w fun e w'=>e= .returned (.int .i64 (lo+CM l a (hi-lo+1)))/\Dn a0 B g w' L l (Dm l a)/\(∀B',KB B' g w w'):=
 (KI B g w L l a lo hi h.1 h1 h2 h3).mono fun _ _ ⟨p1,p2,p3⟩=>⟨p1,⟨p2,qae h.2 (GV l a)⟩,p3⟩
theorem Iy{a0:Nat}(B g:Nat)(w:World)(L:Value)(l:List Int)(a:Nat)(h:Dn a0 B g w L l a)(hB:B<=w.heap.size):Calls Tryz.prog 137 #[.pointer (some ⟨g,0,none⟩)] w fun e w'=>∃t,e= .returned (str t)/\Bh t=0/\t.length<=5/\Dn a0 B g w' L l (Dm l a)/\KB w.heap.size g w w':=
 (N8 B g w L l a h.1 hB).mono fun _ _ ⟨t,p0,p1,p2,p3,p4⟩=>⟨t,p0,p1,p2,⟨p3,qae h.2 (GV l a)⟩,p4⟩
def La(a0 B g:Nat)(w:World)(L:Value)(l:List Int)(xs:List Nd)(d:Nat)(e:Ending)(w':World):Prop:=
 ∃(x:Ex) (v':Value) (a':Nat),e= .returned v'/\x.Good/\x.size+1<=2 ^ d/\x.depth<=d/\AB B w' v' (xs++Ak xs.length x)/\Dn a0 B g w' L l a'/\KB B g w w'
theorem P7(a0 d:Nat):∀(B g:Nat) (w:World) (L:Value) (l:List Int) (a:Nat) (v:Value) (xs:List Nd) (dB:Bool) (D:Int),Dn a0 B g w L l a->AB B w v xs->B<=w.heap.size->1<=d->D=(d:Int)->xs.length+2 ^ d<=100000->d<=1000->
  Calls Tryz.prog 75 #[.pointer (some ⟨g,0,none⟩),v,.int .i64 D,.bool dB] w (La a0 B g w L l xs d):=by
 induction d using Nat.strongRecOn with
 |_ d IH=>
 intro B g w L l a v xs dB D ht hv hB dJ hD aH uH;have rz:=J IH;have HT:=J ht;have HV:=J hv;have HP:=J aH;have uT:=J hD;have YB:1<=D:=by omega
 have mn:=ht.lt;obtain⟨A0,c0,rfl⟩:=hv.shape;have kQ:=J (Qi (a0:=a0) B g w L l a ht);have fT:=J (fun W h=>H4 (a0:=a0) B g W L l a 5 h (by decide) (by decide));have tQ:=J (fun W h=>Js (a0:=a0) B g W L l a 1 16 h (by decide) (by decide) (by decide));have dg:=Cl (l:=l) (a:=a) (n:=5) (by decide);have vA:=Cl (l:=l) (a:=a) (n:=16-1+1) (by decide);have fi:=Jx dJ;obtain⟨i0,hi,aD,hz1,bu⟩:=info_parts EP;have mc:xs.length<=100000:=by omega
 clear IH ht hv aH hD;generalize CM l a 5=x5 at *;generalize CM l a (16-1+1)=x16 at *;generalize Dm l a=a2 at *;go_enter Tryz.func75,Tryz.ntmps75;go_upto_region 1 with fail
 go_cut [23] from 12 to 23 (fun uX wx=>∃q:Bool,uX= .bool q/\Dr w wx/\(q=false->1<D/\xs.length<=24))
 case first=>
  by_cases hD1:D<=1
  ·have hD2:decide (D<=1)=true:=decide_eq_true hD1;go_wp2_with fail;go_meet;exact⟨true,rfl,Dr.refl w,fun h=>by cases h⟩
  ·have hD2:decide (D<=1)=false:=decide_eq_false hD1;by_cases hal:a<l.length
   ·have jT:decide (a<l.length)=true:=decide_eq_true hal;rw[jT]at kQ;clear jT hal;go_wp2_with fail;refine kQ.o.mono ?_
    rintro e w1 ⟨rfl,hd⟩;have gP:=J hd;clear hd;go_wp2_with fail;go_meet;refine⟨_,rfl,gP.o,fun h=>⟨by omega,?_⟩⟩;have h2:=of_decide_eq_false h;omega
   ·have jT:decide (a<l.length)=false:=decide_eq_false hal;rw[jT]at kQ;clear jT hal;go_wp2_with fail;refine kQ.o.mono ?_
    rintro e w1 ⟨rfl,hd⟩;have gP:=J hd;clear hd;go_wp2_with fail;go_meet;exact⟨true,rfl,gP.o,fun h=>by cases h⟩
 case rest=>
  obtain⟨q,rfl,hd,hq⟩:=hcut;clear kQ;have HD:=J hd;have nD:=J (HT.o.below (hd.belowN B));have lj:=J (HV.o.ext (hd.belowN w.heap.size));have ru:=J ((KB.refl B g w).below (hd.belowN B));have rf:B<=wc.heap.size:=by rw[hd.heap];exact hB
  clear hd hB;generalize wc=w1 at *;cases q
  ·obtain⟨hDgt,rR⟩:=hq rfl;obtain⟨m,rfl⟩:∃m,d=m+1:=⟨d-1,by omega⟩;have im:1<=m:=by have:=uT.o;omega
   have og:2 ^ (m+1)=2*2 ^ m:=by rw[qay];omega
   have sf:=Jx im;have aH:=HP.o;have aT:IntKind.i64.wrap (D-1)=D-1:=by have:=uT.o;exact IntWalk.i64_in _ (by omega)
   obtain⟨K,hK⟩:∃K:Nat,(K:Int)=1+x16:=⟨(1+x16).toNat,by omega⟩;rw[<-hK]at tQ;have Yz:1<=K:=by omega
   have hK16:K<=16:=by omega
   have aS:=J (fun W=>Bv W (K:Int));clear hq hK vA fT dg;have key:(Az (K:Int)=0/\K<=4)\/(Az (K:Int)=1/\(K=5\/(10<=K/\K<=16)))\/(Az (K:Int)=2/\(6<=K/\K<=9)):=by
    unfold Az
    repeat' split
    all_goals omega
   rcases key with ⟨aJ,_⟩|⟨aJ,yo⟩|⟨aJ,yo⟩
   ·rw[aJ]at aS;clear aJ rR;have HI:=J (fun W h1 h2 h3=>rz.o 1 (by omega) B g W L l a2 (.slice A0 xs.length c0) xs dB 1 h1 h2 h3 (by decide) rfl (by omega) (by decide));go_wp2_with fail;refine(tQ.o _ nD.o).mono ?_
    rintro e w2 ⟨rfl,ik,hk2⟩;have ir:=J ik;have gY:=J (lj.o.kbx mn hk2);have ft:=J (ru.o.trans (hk2 B));have ip:B<=w2.heap.size:=qae rf (hk2 B).size;clear ik hk2;go_wp2_with fail;refine(aS.o _).mono ?_
    rintro e w3 ⟨rfl,rfl⟩;go_wp2_with fail;refine(HI.o _ ir.o gY.o ip).mono ?_
    rintro e w4 an;obtain⟨x,v',a',rfl,hg,hs,jR,al,lb,hk⟩:=an;have HE:=J (And.intro hg (And.intro hs (And.intro jR (And.intro al (And.intro lb hk)))));clear hg hs jR al lb hk;go_wp2_with fail;go_ret;obtain⟨hg,hs,jR,al,lb,hk⟩:=HE.o;exact⟨x,v',a',rfl,hg,qae hs fi,by omega,al,lb,ft.o.trans hk⟩
   ·rw[aJ]at aS;clear aJ rR;by_cases hK10:K=10
    ·subst hK10;rw[show ((10:Nat):Int)=10 from rfl]at aS tQ;have tR:=J (fun W h=>Js (a0:=a0) B g W L l a2 (-3) 4 h (by decide) (by decide) (by decide));have cO:=Cl (l:=l) (a:=a2) (n:=4- -3+1) (by decide);have vN: -3≤-3+CM l a2 (4- -3+1)∧-3+CM l a2 (4- -3+1)<=4:=by omega
     generalize-3+CM l a2 (4- -3+1)=nn at *;generalize Dm l a2=a3 at *;clear cO;go_wp2_with fail;refine(tQ.o _ nD.o).mono ?_
     rintro e w2 ⟨rfl,ik,hk2⟩;have ir:=J ik;have gY:=J (lj.o.kbx mn hk2);have ft:=J (ru.o.trans (hk2 B));have ip:B<=w2.heap.size:=qae rf (hk2 B).size;clear ik hk2;go_wp2_with fail;refine(aS.o _).mono ?_
     rintro e w3 ⟨rfl,rfl⟩;go_wp2_with fail;refine(tR.o _ ir.o).mono ?_
     rintro e w6 ⟨rfl,XO,jN⟩;have tJ:=J XO;have HV6:=J (gY.o.kbx mn jN);have gk:=J (ft.o.trans (jN B));have uN:B<=w6.heap.size:=qae ip (jN B).size;clear XO jN;go_wp2_with fail;refine(rz.o m (by omega) B g _ L l a3 (.slice A0 xs.length c0) (xs) dB (D-1) tJ.o HV6.o uN im (by have:=uT.o;omega) (by omega) (by omega)).mono ?_
     rintro e w7 an;obtain⟨x,v7,a7,rfl,dC,ux,kJ,a5,kt,iK⟩:=an;obtain⟨A7,c7,n7,rfl,mj⟩:=a5.shape3;have nA:n7=xs.length+x.size:=by rw[mj,qac,AD]
     have yu:Hid (w7.ownsRow B 95 5 (.slice A7 n7 c7) n7 (BR (xs++Ak xs.length x))):=J (by
      have h:=a5;unfold AB at h;rw[<-mj]at h;exact h)
     have ng:=J nA;have wM:n7<=100000:=by omega
     have wL:1<=n7:=by have:=x.size_pos;omega
     have m7:=J a5;have ne:=J mj;have nF:=J kt;have pT:=J (And.intro dC kJ);have jZ:=J (gk.o.trans iK);have uM:B<=w7.heap.size:=qae uN iK.size;clear dC kJ a5 kt iK mj nA;have ev:IntKind.i64.wrap ((n7:Int)-1)=(n7:Int)-1:=IntWalk.i64_in _ (by omega);have ec:Hid ((w7.alloc (.cells #[.int .i64 10,.int .i64 ((n7:Int)-1),.int .i64 0,.int .i64 nn,.string ⟨#[]⟩] 95)).ownsRow B 95 5 _ n7 (BR (xs++Ak xs.length x))):=J (Ah yu.o (fun k _ hk=>Below.heap_alloc _ _ k hk));have dK:=J (Cd w7 95 [.int .i64 10,.int .i64 ((n7:Int)-1),.int .i64 0,.int .i64 nn,.string ⟨#[]⟩]);have bN:Hid (n7+1<=maxLen):=J (by unfold maxLen;omega);have bM:Hid ((n7+1)*48<=140737488355328):=J (by omega);have cD:Hid (B<=(w7.alloc (.cells #[.int .i64 10,.int .i64 ((n7:Int)-1),.int .i64 0,.int .i64 nn,.string ⟨#[]⟩] 95)).heap.size):=J (by simp;omega);go_wp2_with (at_builtin;go_must (refine wpList_append_own _ rfl _ _ 32 rfl B 95 i0 _ 5 48 Tryz.underlying32 hi aD hz1 bu rfl (by decide) _ n7 (BR (xs++Ak xs.length x)) rfl ec.o ⟨w7.heap.size,0,none⟩ 1 1 [.int .i64 10,.int .i64 ((n7:Int)-1),.int .i64 0,.int .i64 nn,.string ⟨#[]⟩] rfl rfl dK.o (by simp[Value.oneCell']) bN.o bM.o cD.o ?_;intro v' w' al aC _;have eK:=J (DF (nd:=⟨10,(n7:Int)-1,0,nn,[]⟩) ne.o _ m7.o uM al aC);obtain⟨A',c',rfl⟩:=Aw al;clear al aC));go_wp2_with fail;go_ret;have nA:=ng.o;have vt:=x.size_pos;refine⟨.un 10 nn x,_,_,rfl,⟨yo,fun h=>absurd rfl h,by omega,by omega,pT.o.1⟩,by rw[Ex.size];omega,by rw[Ex.depth];have:=pT.o.2;omega,?_,nF.o.below eK.o.2,jZ.o.below eK.o.2⟩;rw[Ak,<-qao,show ((xs.length+x.size-1:Nat):Int)=(n7:Int)-1 by omega];exact eK.o.1
    ·have hKe:((K:Int) == 10)=false:=by rw[beq_eq_false_iff_ne];omega
     go_wp2_with fail;refine(tQ.o _ nD.o).mono ?_
     rintro e w2 ⟨rfl,ik,hk2⟩;have ir:=J ik;have gY:=J (lj.o.kbx mn hk2);have ft:=J (ru.o.trans (hk2 B));have ip:B<=w2.heap.size:=qae rf (hk2 B).size;clear ik hk2;go_wp2_with fail;refine(aS.o _).mono ?_
     rintro e w3 ⟨rfl,rfl⟩;have gk:=J ft.o;have uN:=ip;go_wp2_with fail;refine(rz.o m (by omega) B g _ L l a2 (.slice A0 xs.length c0) (xs) dB (D-1) ir.o gY.o ip im (by have:=uT.o;omega) (by omega) (by omega)).mono ?_
     rintro e w7 an;obtain⟨x,v7,a7,rfl,dC,ux,kJ,a5,kt,iK⟩:=an;obtain⟨A7,c7,n7,rfl,mj⟩:=a5.shape3;have nA:n7=xs.length+x.size:=by rw[mj,qac,AD]
     have yu:Hid (w7.ownsRow B 95 5 (.slice A7 n7 c7) n7 (BR (xs++Ak xs.length x))):=J (by
      have h:=a5;unfold AB at h;rw[<-mj]at h;exact h)
     have ng:=J nA;have wM:n7<=100000:=by omega
     have wL:1<=n7:=by have:=x.size_pos;omega
     have m7:=J a5;have ne:=J mj;have nF:=J kt;have pT:=J (And.intro dC kJ);have jZ:=J (gk.o.trans iK);have uM:B<=w7.heap.size:=qae uN iK.size;clear dC kJ a5 kt iK mj nA;have ev:IntKind.i64.wrap ((n7:Int)-1)=(n7:Int)-1:=IntWalk.i64_in _ (by omega);have ec:Hid ((w7.alloc (.cells #[.int .i64 (K:Int),.int .i64 ((n7:Int)-1),.int .i64 0,.int .i64 0,.string ⟨#[]⟩] 95)).ownsRow B 95 5 _ n7 (BR (xs++Ak xs.length x))):=J (Ah yu.o (fun k _ hk=>Below.heap_alloc _ _ k hk));have dK:=J (Cd w7 95 [.int .i64 (K:Int),.int .i64 ((n7:Int)-1),.int .i64 0,.int .i64 0,.string ⟨#[]⟩]);have bN:Hid (n7+1<=maxLen):=J (by unfold maxLen;omega);have bM:Hid ((n7+1)*48<=140737488355328):=J (by omega);have cD:Hid (B<=(w7.alloc (.cells #[.int .i64 (K:Int),.int .i64 ((n7:Int)-1),.int .i64 0,.int .i64 0,.string ⟨#[]⟩] 95)).heap.size):=J (by simp;omega);go_wp2_with (at_builtin;go_must (refine wpList_append_own _ rfl _ _ 32 rfl B 95 i0 _ 5 48 Tryz.underlying32 hi aD hz1 bu rfl (by decide) _ n7 (BR (xs++Ak xs.length x)) rfl ec.o ⟨w7.heap.size,0,none⟩ 1 1 [.int .i64 (K:Int),.int .i64 ((n7:Int)-1),.int .i64 0,.int .i64 0,.string ⟨#[]⟩] rfl rfl dK.o (by simp[Value.oneCell']) bN.o bM.o cD.o ?_;intro v' w' al aC _;have eK:=J (DF (nd:=⟨(K:Int),(n7:Int)-1,0,0,[]⟩) ne.o _ m7.o uM al aC);obtain⟨A',c',rfl⟩:=Aw al;clear al aC));go_wp2_with fail;go_ret;have nA:=ng.o;have vt:=x.size_pos;refine⟨.un K 0 x,_,_,rfl,⟨yo,fun _=>rfl,by omega,by omega,pT.o.1⟩,by rw[Ex.size];omega,by rw[Ex.depth];have:=pT.o.2;omega,?_,nF.o.below eK.o.2,jZ.o.below eK.o.2⟩;rw[Ak,<-qao,show ((xs.length+x.size-1:Nat):Int)=(n7:Int)-1 by omega];exact eK.o.1
   ·rw[aJ]at aS;clear aJ rR;go_wp2_with fail;refine(tQ.o _ nD.o).mono ?_
    rintro e w2 ⟨rfl,ik,hk2⟩;have ir:=J ik;have gY:=J (lj.o.kbx mn hk2);have ft:=J (ru.o.trans (hk2 B));have ip:B<=w2.heap.size:=qae rf (hk2 B).size;clear ik hk2;go_wp2_with fail;refine(aS.o _).mono ?_
    rintro e w3 ⟨rfl,rfl⟩;have gk:=J ft.o;have uN:=ip;go_wp2_with fail;refine(rz.o m (by omega) B g _ L l a2 (.slice A0 xs.length c0) (xs) dB (D-1) ir.o gY.o ip im (by have:=uT.o;omega) (by omega) (by omega)).mono ?_
    rintro e w7 an;obtain⟨x,v7,a7,rfl,dC,ux,kJ,a5,kt,iK⟩:=an;obtain⟨A7,c7,n7,rfl,mj⟩:=a5.shape3;have nA:n7=xs.length+x.size:=by rw[mj,qac,AD]
    have yu:Hid (w7.ownsRow B 95 5 (.slice A7 n7 c7) n7 (BR (xs++Ak xs.length x))):=J (by
     have h:=a5;unfold AB at h;rw[<-mj]at h;exact h)
    have ng:=J nA;have wM:n7<=100000:=by omega
    have wL:1<=n7:=by have:=x.size_pos;omega
    have m7:=J a5;have ne:=J mj;have nF:=J kt;have pT:=J (And.intro dC kJ);have jZ:=J (gk.o.trans iK);have uM:B<=w7.heap.size:=qae uN iK.size;clear dC kJ a5 kt iK mj nA;have ev:IntKind.i64.wrap ((n7:Int)-1)=(n7:Int)-1:=IntWalk.i64_in _ (by omega);go_wp2_with fail;refine(rz.o m (by omega) B g _ L l a7 (.slice A7 n7 c7) (xs++Ak xs.length x) dB (D-1) nF.o m7.o uM im (by have:=uT.o;omega) (by rw[<-ne.o];have:=ng.o;omega) (by omega)).mono ?_
    rintro e w8 an;obtain⟨y,v8,a8,rfl,ws,zv,wD,mh,vo,d7⟩:=an;have V4:=ng.o;obtain⟨A8,c8,n8,rfl,vN⟩:=mh.shape3;have V3:n8=n7+y.size:=by rw[vN,qac,AD,<-ne.o]
    have HW8:Hid (w8.ownsRow B 95 5 (.slice A8 n8 c8) n8 (BR ((xs++Ak xs.length x)++Ak (xs++Ak xs.length x).length y))):=J (by
     have h:=mh;unfold AB at h;rw[<-vN]at h;exact h)
    have t6:=J V3;have hb8a:n8<=100000:=by omega
    have hb8b:1<=n8:=by have:=y.size_pos;omega
    have xv:=J mh;have lR:=J vN;have HT8:=J vo;have yD:=J (And.intro ws wD);have lW:=J (jZ.o.trans d7);have hB8:B<=w8.heap.size:=qae uM d7.size;clear ws wD mh vo d7 vN V3 V4;have eN:IntKind.i64.wrap ((n8:Int)-1)=(n8:Int)-1:=IntWalk.i64_in _ (by omega);have ec:Hid ((w8.alloc (.cells #[.int .i64 (K:Int),.int .i64 ((n7:Int)-1),.int .i64 ((n8:Int)-1),.int .i64 0,.string ⟨#[]⟩] 95)).ownsRow B 95 5 _ n8 (BR ((xs++Ak xs.length x)++Ak (xs++Ak xs.length x).length y))):=J (Ah HW8.o (fun k _ hk=>Below.heap_alloc _ _ k hk));have dK:=J (Cd w8 95 [.int .i64 (K:Int),.int .i64 ((n7:Int)-1),.int .i64 ((n8:Int)-1),.int .i64 0,.string ⟨#[]⟩]);have bN:Hid (n8+1<=maxLen):=J (by unfold maxLen;omega);have bM:Hid ((n8+1)*48<=140737488355328):=J (by omega);have cD:Hid (B<=(w8.alloc (.cells #[.int .i64 (K:Int),.int .i64 ((n7:Int)-1),.int .i64 ((n8:Int)-1),.int .i64 0,.string ⟨#[]⟩] 95)).heap.size):=J (by simp;omega);go_wp2_with (at_builtin;go_must (refine wpList_append_own _ rfl _ _ 32 rfl B 95 i0 _ 5 48 Tryz.underlying32 hi aD hz1 bu rfl (by decide) _ n8 (BR ((xs++Ak xs.length x)++Ak (xs++Ak xs.length x).length y)) rfl ec.o ⟨w8.heap.size,0,none⟩ 1 1 [.int .i64 (K:Int),.int .i64 ((n7:Int)-1),.int .i64 ((n8:Int)-1),.int .i64 0,.string ⟨#[]⟩] rfl rfl dK.o (by simp[Value.oneCell']) bN.o bM.o cD.o ?_;intro v' w' al aC _;have eK:=J (DF (nd:=⟨(K:Int),(n7:Int)-1,(n8:Int)-1,0,[]⟩) lR.o _ xv.o hB8 al aC);obtain⟨A',c',rfl⟩:=Aw al;clear al aC));go_wp2_with fail;go_ret;have nA:=ng.o;have V3:=t6.o;have vt:=x.size_pos;have hsz8:=y.size_pos;refine⟨.bin K x y,_,_,rfl,⟨yo,pT.o.1,yD.o.1⟩,by rw[Ex.size];omega,by rw[Ex.depth];have:=pT.o.2;have:=yD.o.2;omega,?_,HT8.o.below eK.o.2,lW.o.below eK.o.2⟩;rw[Ak,show ((xs.length+x.size-1:Nat):Int)=(n7:Int)-1 by omega,show ((xs.length+x.size+y.size-1:Nat):Int)=(n8:Int)-1 by omega];have h9:=eK.o.1;rw[show (xs++Ak xs.length x).length=xs.length+x.size by rw[<-ne.o];exact nA]at h9;simp only[qao]at h9 ⊢;exact h9
  ·clear hq rz tQ vA;obtain rfl|YF|h34:x5=0\/(x5=1\/x5=2)\/(x5=3\/x5=4):=by omega
   ·go_wp2_with fail;refine(fT.o _ nD.o).mono ?_
    rintro e w2 ⟨rfl,ik,hk2⟩;have ir:=J ik;have gY:=J (lj.o.kbx mn hk2);have ft:=J (ru.o.trans (hk2 B));have ip:B<=w2.heap.size:=qae rf (hk2 B).size;clear ik hk2;have iv:=J (fun W h=>H4 (a0:=a0) B g W L l a2 2 h (by decide) (by decide));have hr2:=Cl (l:=l) (a:=a2) (n:=2) (by decide);generalize CM l a2 2=y at *;generalize Dm l a2=a3 at *;obtain rfl|rfl:y=0\/y=1:=by omega
    ·go_wp2_with fail;refine(iv.o _ ir.o).mono ?_
     rintro e w3 ⟨rfl,mf,d9⟩;have oW:=J mf;have kO:=J (gY.o.kbx mn d9);have eJ:=J (ft.o.trans (d9 B));have qp:B<=w3.heap.size:=qae ip (d9 B).size;clear mf d9;have ec:Hid ((w3.alloc (.cells #[.int .i64 3,.int .i64 0,.int .i64 0,.int .i64 0,.string ⟨#[]⟩] 95)).ownsRow B 95 5 _ xs.length (BR (xs))):=J (Ah kO.o (fun k _ hk=>Below.heap_alloc _ _ k hk));have dK:=J (Cd w3 95 [.int .i64 3,.int .i64 0,.int .i64 0,.int .i64 0,.string ⟨#[]⟩]);have bN:Hid (xs.length+1<=maxLen):=J (by unfold maxLen;omega);have bM:Hid ((xs.length+1)*48<=140737488355328):=J (by omega);have cD:Hid (B<=(w3.alloc (.cells #[.int .i64 3,.int .i64 0,.int .i64 0,.int .i64 0,.string ⟨#[]⟩] 95)).heap.size):=J (by simp;omega);go_wp2_with (at_builtin;go_must (refine wpList_append_own _ rfl _ _ 32 rfl B 95 i0 _ 5 48 Tryz.underlying32 hi aD hz1 bu rfl (by decide) _ xs.length (BR (xs)) rfl ec.o ⟨w3.heap.size,0,none⟩ 1 1 [.int .i64 3,.int .i64 0,.int .i64 0,.int .i64 0,.string ⟨#[]⟩] rfl rfl dK.o (by simp[Value.oneCell']) bN.o bM.o cD.o ?_;intro v' w' al aC _;have eK:=J (DF (nd:=⟨3,0,0,0,[]⟩) rfl _ kO.o qp al aC);obtain⟨A',c',rfl⟩:=Aw al;clear al aC));go_wp2_with fail;go_ret;exact⟨.leaf 3 [],_,_,rfl,.inr (.inr ⟨by omega,rfl⟩),by rw[Ex.size];omega,dJ,eK.o.1,oW.o.below eK.o.2,eJ.o.below eK.o.2⟩
    ·go_wp2_with fail;refine(iv.o _ ir.o).mono ?_
     rintro e w3 ⟨rfl,mf,d9⟩;have oW:=J mf;have kO:=J (gY.o.kbx mn d9);have eJ:=J (ft.o.trans (d9 B));have qp:B<=w3.heap.size:=qae ip (d9 B).size;clear mf d9;have ec:Hid ((w3.alloc (.cells #[.int .i64 4,.int .i64 0,.int .i64 0,.int .i64 0,.string ⟨#[]⟩] 95)).ownsRow B 95 5 _ xs.length (BR (xs))):=J (Ah kO.o (fun k _ hk=>Below.heap_alloc _ _ k hk));have dK:=J (Cd w3 95 [.int .i64 4,.int .i64 0,.int .i64 0,.int .i64 0,.string ⟨#[]⟩]);have bN:Hid (xs.length+1<=maxLen):=J (by unfold maxLen;omega);have bM:Hid ((xs.length+1)*48<=140737488355328):=J (by omega);have cD:Hid (B<=(w3.alloc (.cells #[.int .i64 4,.int .i64 0,.int .i64 0,.int .i64 0,.string ⟨#[]⟩] 95)).heap.size):=J (by simp;omega);go_wp2_with (at_builtin;go_must (refine wpList_append_own _ rfl _ _ 32 rfl B 95 i0 _ 5 48 Tryz.underlying32 hi aD hz1 bu rfl (by decide) _ xs.length (BR (xs)) rfl ec.o ⟨w3.heap.size,0,none⟩ 1 1 [.int .i64 4,.int .i64 0,.int .i64 0,.int .i64 0,.string ⟨#[]⟩] rfl rfl dK.o (by simp[Value.oneCell']) bN.o bM.o cD.o ?_;intro v' w' al aC _;have eK:=J (DF (nd:=⟨4,0,0,0,[]⟩) rfl _ kO.o qp al aC);obtain⟨A',c',rfl⟩:=Aw al;clear al aC));go_wp2_with fail;go_ret;exact⟨.leaf 4 [],_,_,rfl,.inr (.inr ⟨by omega,rfl⟩),by rw[Ex.size];omega,dJ,eK.o.1,oW.o.below eK.o.2,eJ.o.below eK.o.2⟩
   ·cases dB
    ·obtain rfl|rfl:=YF
     all_goals
      go_wp2_with fail;refine(fT.o _ nD.o).mono ?_
      rintro e w2 ⟨rfl,ik,hk2⟩;have ir:=J ik;have gY:=J (lj.o.kbx mn hk2);have ft:=J (ru.o.trans (hk2 B));have ip:B<=w2.heap.size:=qae rf (hk2 B).size;clear ik hk2;have iv:=J (fun W h=>H4 (a0:=a0) B g W L l a2 5 h (by decide) (by decide));have hr2:=Cl (l:=l) (a:=a2) (n:=5) (by decide);obtain⟨t,nT,mG,X7,jk⟩:=Qg hr2.1 hr2.2;obtain⟨hy0,p6⟩:=hr2;have kS:=J X7;have Wp:=J mG;generalize CM l a2 5=y at *;generalize Dm l a2=a3 at *;clear X7 mG;go_wp2_with fail;refine(KV _).mono ?_
      rintro e w4 ⟨rfl,oK,bf⟩;have ig:=J oK;have bE:=J bf;clear oK bf;go_wp2_with fail;refine(KV _).mono ?_
      rintro e w5 ⟨rfl,_,hx5⟩;have iZ:=J (ig.o.ext hx5);have dn:=J (bE.o.trans hx5);clear hx5;go_wp2_with fail;refine(iv.o _ (ir.o.below (Below.mono dn.o ip))).mono ?_
      rintro e w3 ⟨rfl,mf,d9⟩;have eZ:=ir.o.blk.lt;have xZ:=((d9 (w2.heap.size+1)).blk iZ.o (by omega) (by omega)).cell y.toNat;rw[qbL,qaP,qad nT]at xZ;rw[Wp.o]at xZ;have hld2:w3.cell? ⟨w2.heap.size,y.toNat,none⟩=some (str t):=xZ;have oW:=J mf;have kO:=J ((gY.o.ext dn.o).kbx mn d9);have eJ:=J ((ft.o.ext dn.o ip).trans (d9 B));have qp:B<=w3.heap.size:=qae ip (qae dn.o.size (d9 B).size);clear mf d9 xZ eZ;have ec:Hid ((w3.alloc (.cells #[.int .i64 2,.int .i64 0,.int .i64 0,.int .i64 0,str t] 95)).ownsRow B 95 5 _ xs.length (BR (xs))):=J (Ah kO.o (fun k _ hk=>Below.heap_alloc _ _ k hk));have dK:=J (Cd w3 95 [.int .i64 2,.int .i64 0,.int .i64 0,.int .i64 0,str t]);have bN:Hid (xs.length+1<=maxLen):=J (by unfold maxLen;omega);have bM:Hid ((xs.length+1)*48<=140737488355328):=J (by omega);have cD:Hid (B<=(w3.alloc (.cells #[.int .i64 2,.int .i64 0,.int .i64 0,.int .i64 0,str t] 95)).heap.size):=J (by simp;omega);go_wp2_with (at_builtin;go_must (refine wpList_append_own _ rfl _ _ 32 rfl B 95 i0 _ 5 48 Tryz.underlying32 hi aD hz1 bu rfl (by decide) _ xs.length (BR (xs)) rfl ec.o ⟨w3.heap.size,0,none⟩ 1 1 [.int .i64 2,.int .i64 0,.int .i64 0,.int .i64 0,str t] rfl rfl dK.o (by simp[Value.oneCell',str]) bN.o bM.o cD.o ?_;intro v' w' al aC _;have eK:=J (DF (nd:=⟨2,0,0,0,t⟩) rfl _ kO.o qp al aC);obtain⟨A',c',rfl⟩:=Aw al;clear al aC));go_wp2_with fail;go_ret;exact⟨.leaf 2 t,_,_,rfl,.inr (.inl ⟨rfl,kS.o⟩),by rw[Ex.size];omega,dJ,eK.o.1,oW.o.below eK.o.2,eJ.o.below eK.o.2⟩
    ·obtain rfl|rfl:=YF
     all_goals
      go_wp2_with fail;refine(fT.o _ nD.o).mono ?_
      rintro e w2 ⟨rfl,ik,hk2⟩;have ir:=J ik;have gY:=J (lj.o.kbx mn hk2);have ft:=J (ru.o.trans (hk2 B));have ip:B<=w2.heap.size:=qae rf (hk2 B).size;clear ik hk2;go_wp2_with fail;refine(Iy (a0:=a0) B g _ L l a2 ir.o ip).mono ?_
      rintro e w3 ⟨t,rfl,wG,jk,mf,d9⟩;have kS:=J (And.intro wG jk);clear wG jk;have oW:=J mf;have kO:=J (gY.o.kbs mn d9);have eJ:=J (ft.o.trans (d9.mono ip));have qp:B<=w3.heap.size:=qae ip d9.size;clear mf d9;have ec:Hid ((w3.alloc (.cells #[.int .i64 1,.int .i64 0,.int .i64 0,.int .i64 0,str t] 95)).ownsRow B 95 5 _ xs.length (BR (xs))):=J (Ah kO.o (fun k _ hk=>Below.heap_alloc _ _ k hk));have dK:=J (Cd w3 95 [.int .i64 1,.int .i64 0,.int .i64 0,.int .i64 0,str t]);have bN:Hid (xs.length+1<=maxLen):=J (by unfold maxLen;omega);have bM:Hid ((xs.length+1)*48<=140737488355328):=J (by omega);have cD:Hid (B<=(w3.alloc (.cells #[.int .i64 1,.int .i64 0,.int .i64 0,.int .i64 0,str t] 95)).heap.size):=J (by simp;omega);go_wp2_with (at_builtin;go_must (refine wpList_append_own _ rfl _ _ 32 rfl B 95 i0 _ 5 48 Tryz.underlying32 hi aD hz1 bu rfl (by decide) _ xs.length (BR (xs)) rfl ec.o ⟨w3.heap.size,0,none⟩ 1 1 [.int .i64 1,.int .i64 0,.int .i64 0,.int .i64 0,str t] rfl rfl dK.o (by simp[Value.oneCell',str]) bN.o bM.o cD.o ?_;intro v' w' al aC _;have eK:=J (DF (nd:=⟨1,0,0,0,t⟩) rfl _ kO.o qp al aC);obtain⟨A',c',rfl⟩:=Aw al;clear al aC));go_wp2_with fail;go_ret;exact⟨.leaf 1 t,_,_,rfl,.inl ⟨rfl,kS.o.1,qae kS.o.2 (by decide)⟩,by rw[Ex.size];omega,dJ,eK.o.1,oW.o.below eK.o.2,eJ.o.below eK.o.2⟩
   ·obtain rfl|rfl:=h34
    all_goals
     go_wp2_with fail;refine(fT.o _ nD.o).mono ?_
     rintro e w2 ⟨rfl,ik,hk2⟩;have ir:=J ik;have gY:=J (lj.o.kbx mn hk2);have ft:=J (ru.o.trans (hk2 B));have ip:B<=w2.heap.size:=qae rf (hk2 B).size;clear ik hk2;go_wp2_with fail;refine(Iy (a0:=a0) B g _ L l a2 ir.o ip).mono ?_
     rintro e w3 ⟨t,rfl,wG,jk,mf,d9⟩;have kS:=J (And.intro wG jk);clear wG jk;have oW:=J mf;have kO:=J (gY.o.kbs mn d9);have eJ:=J (ft.o.trans (d9.mono ip));have qp:B<=w3.heap.size:=qae ip d9.size;clear mf d9;have ec:Hid ((w3.alloc (.cells #[.int .i64 1,.int .i64 0,.int .i64 0,.int .i64 0,str t] 95)).ownsRow B 95 5 _ xs.length (BR (xs))):=J (Ah kO.o (fun k _ hk=>Below.heap_alloc _ _ k hk));have dK:=J (Cd w3 95 [.int .i64 1,.int .i64 0,.int .i64 0,.int .i64 0,str t]);have bN:Hid (xs.length+1<=maxLen):=J (by unfold maxLen;omega);have bM:Hid ((xs.length+1)*48<=140737488355328):=J (by omega);have cD:Hid (B<=(w3.alloc (.cells #[.int .i64 1,.int .i64 0,.int .i64 0,.int .i64 0,str t] 95)).heap.size):=J (by simp;omega);go_wp2_with (at_builtin;go_must (refine wpList_append_own _ rfl _ _ 32 rfl B 95 i0 _ 5 48 Tryz.underlying32 hi aD hz1 bu rfl (by decide) _ xs.length (BR (xs)) rfl ec.o ⟨w3.heap.size,0,none⟩ 1 1 [.int .i64 1,.int .i64 0,.int .i64 0,.int .i64 0,str t] rfl rfl dK.o (by simp[Value.oneCell',str]) bN.o bM.o cD.o ?_;intro v' w' al aC _;have eK:=J (DF (nd:=⟨1,0,0,0,t⟩) rfl _ kO.o qp al aC);obtain⟨A',c',rfl⟩:=Aw al;clear al aC));go_wp2_with fail;go_ret;exact⟨.leaf 1 t,_,_,rfl,.inl ⟨rfl,kS.o.1,qae kS.o.2 (by decide)⟩,by rw[Ex.size];omega,dJ,eK.o.1,oW.o.below eK.o.2,eJ.o.below eK.o.2⟩
theorem QH(d g:Nat)(w:World)(L:Value)(l:List Int)(a:Nat)(dB:Bool)(h:B3 w.heap.size g w L l a)(hd:1<=d)(eH:d<=16):Calls Tryz.prog 22 #[.pointer (some ⟨g,0,none⟩),.int .i64 (d:Int),.bool dB] w (La a w.heap.size g w L l [] d):=by
 have hp:2 ^ d<=2 ^ 16:=qbe (by omega) eH;have HP:=J (P7 a d w.heap.size g w L l a (.slice none 0 0) [] dB (d:Int) ⟨h,qab a⟩ (AB.nil _ w) (qab _) hd rfl (by simp;omega) (by omega));clear h hp;go_enter Tryz.func22,Tryz.ntmps22;go_wp2_with fail;refine HP.o.mono ?_
 rintro e w2 ⟨x,v',a',rfl,h1,h2,h3,h4,h5,h6⟩;have HE:=J (And.intro h1 (And.intro h2 (And.intro h3 (And.intro h4 (And.intro h5 h6)))));clear h1 h2 h3 h4 h5 h6;go_wp2_with fail;go_ret;obtain⟨h1,h2,h3,h4,h5,h6⟩:=HE.o;exact⟨x,v',a',rfl,h1,h2,h3,h4,h5,h6⟩
end Big
end Go.Proofs.YtkoaogkknnelaaaGreatDoor
