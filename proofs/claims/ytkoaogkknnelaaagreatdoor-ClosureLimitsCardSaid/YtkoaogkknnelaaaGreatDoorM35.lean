import Derived.Test.YtkoaogkknnelaaaGreatDoorM34
import Derived.Maps.RangeWalk
set_option linter.unusedVariables false
set_option linter.unusedSimpArgs false
set_option maxHeartbeats 8000000
set_option maxRecDepth 100000
namespace Go.Proofs.YtkoaogkknnelaaaGreatDoor
namespace Big
open Lib renaming hid → J
open Go.RowKit
theorem JL(B g b:Nat)(w:World)(ns:List Nd)(nv:Value)(h:GrP B g b w ns nv)(i:Int):
  Calls Tryz.prog 96 #[.pointer (some ⟨g,0,none⟩),.int .i64 i] w fun e w'=>e= .returned (.bool (decide (0<=i/\i<(ns.length:Int))))/\Ext w w':=by
 have aN:=J (E4 B g b w ns nv h i);clear h;obtain⟨d,hd⟩:∃d,decide (0<=i/\i<(ns.length:Int))=d:=⟨_,rfl⟩;have key:∃(k a c n:Int) (s:ByteArray),KS ns i= .tuple #[.agg #[.int .i64 k,.int .i64 a,.int .i64 c,.int .i64 n,.string s],.bool d]:=by
  by_cases hi:0<=i/\i<(ns.length:Int)
  ·obtain⟨k,rfl⟩:∃k:Nat,i=(k:Int):=⟨i.toNat,by omega⟩;rw[EX (by omega),<-hd,decide_eq_true hi];exact⟨_,_,_,_,_,rfl⟩
  ·rw[KQ (by omega),<-hd,decide_eq_false hi];exact⟨_,_,_,_,_,rfl⟩
 obtain⟨k,a,c,n,s,hk⟩:=key;rw[hk]at aN;rw[hd];clear hk hd;go_enter Tryz.func96,Tryz.ntmps96;go_wp2_with fail;refine aN.o.mono ?_
 rintro e w1 ⟨rfl,am⟩;have ah:=J am;clear am aN;go_wp2_with fail;go_ret;exact⟨rfl,ah.o.alloc _⟩
open Go.RowKit Go.Maps Go.Sort Go.WideShapes Go.ChangeMaps Go.MapKept
theorem LJ{key:Value}{kl:Lit}(h:keyOf Tryz.prog 9 key=some kl):∃t:Tx,key=str t/\kl= .string t/\t.length<=maxLen:=by
 have hk:=Tryz.underlying9;cases key<;>simp[keyOf,hk,mapKey]at h;rename_i s;obtain⟨h1,rfl⟩:=h;refine⟨s.data.toList,rfl,rfl,?_⟩
 simpa using h1
def RgS(w:World)(b r n:Nat)(S L:Tx->Prop)(cnt:Nat):Prop:=∃(D:DataW Unit) (nl:Lit->Bool),w.ranges Tryz.prog 9 (plainElem Tryz.prog 4) b r n D nl cnt/\(∀k zd,D.atKey k zd=(GW S k).elim zd DataW.lit)/\(∀k,has D k=(GW S k).isSome)/\∀t,nl (.string t)=true↔L t
section
variable {w w':World} {b r m n cnt:Nat} {S L:Tx->Prop}
theorem Py(S:Tx->Prop)(t:Tx):(GW S (.string t)).isSome=true↔S t:=by
 by_cases h:S t<;>simp[GW,h]
theorem EE.range(h:EE w b m S):∃w' cnt,(Instr.range 151 (.map (some b))).run Tryz.prog w= .ok (.pointer (some ⟨w.heap.size,0,none⟩)) w'/\RgS w' b w.heap.size m S S cnt/\Ext w w'/\w'.heap.size=w.heap.size+1:=by
 obtain⟨D,h,h2,h3⟩:=h;obtain⟨w',hr,jE,hg,hs⟩:=h.range (string_keyed Tryz.underlying9) Tryz.underlying151;refine⟨w',_,hr,⟨D,_,jE,h2,h3,fun t=> ?_⟩,(Ext.refl w).grown hg (fun j e=>by cases e),hs⟩;rw[h3];exact Py S t
theorem RgS.left_eq(h:RgS w b r n S L cnt):w.rangeLeft b r=cnt:=by
 obtain⟨_,_,h,_⟩:=h;exact h.left_eq
theorem RgS.smap(h:RgS w b r n S L cnt):EE w b n S:=by
 obtain⟨D,_,h,h2,h3,_⟩:=h;exact⟨D,h.owns,h2,h3⟩
theorem RgS.lt(h:RgS w b r n S L cnt):r<w.heap.size:=by
 obtain⟨_,_,h,_⟩:=h;exact h.lt
theorem RgS.kept{row:Option Nat}(h:RgS w b r n S L cnt)(hg:w.grownBy w' row)(hb:some b≠row)(hr:some r≠row):RgS w' b r n S L cnt:=by
 obtain⟨D,nl,h,h2⟩:=h;exact⟨D,nl,h.kept hg hb hr,h2⟩
theorem RgS.next(h:RgS w b r n S L cnt)(ty:TypeId):
  (cnt=0/\(∀t,¬L t)/\(Instr.next (.pointer (some ⟨r,0,none⟩)) false ty).run Tryz.prog w= .ok (.tuple #[.bool false]) w)\/
  ∃t v w' pY,L t/\S t/\t.length<=maxLen/\(Instr.next (.pointer (some ⟨r,0,none⟩)) false ty).run Tryz.prog w= .ok (.tuple #[.bool true,str t,.bool v]) w'/\RgS w' b r n S (fun x=>L x/\x≠t) pY/\pY<cnt/\w.grownBy w' (some r)/\(Instr.entry (.pointer (some ⟨r,0,none⟩))).run Tryz.prog w'= .ok (.tuple #[str t,.bool v]) w':=by
 obtain⟨D,nl,h,h2,h3,h4⟩:=h;have K:=string_keyed Tryz.underlying9;rcases h.next K ty with ⟨h0,hl,aV⟩|⟨key,v,kl,y,w',pY,hkey,kv,hv,hat,aV,jE,hlt,al,cQ,mm⟩
 ·refine .inl ⟨h0,fun t ht=> ?_,aV⟩;rw[<-h4,hl]at ht;cases ht
 ·obtain⟨t,rfl,rfl,ao⟩:=LJ hkey;obtain⟨x,rfl,rfl⟩:=Et Tryz.underlying4 hv;refine .inr ⟨t,x,w',pY,(h4 t).1 kv,?_,ao,aV,⟨D,_,jE,h2,h3,fun s=> ?_⟩,hlt,al,mm⟩
  ·have e1:=(hat (.lit (.bool true))).symm.trans (h2 _ _);have e2:=(hat (.lit (.bool false))).symm.trans (h2 _ _);by_cases hs:S t
   ·exact hs
   ·rw[show GW S (.string t)=none by simp[GW,hs]]at e1 e2;have e3:=e1.symm.trans e2;simp at e3
  ·simp only[Bool.and_eq_true,Bool.not_eq_true'];rw[h4];constructor
   ·rintro⟨h5,h6⟩;refine⟨h5,fun e=> ?_⟩;subst e;rw[WideAt.sameKey_self (K.key hkey)]at h6;cases h6
   ·rintro⟨h5,h6⟩;refine⟨h5,Maps.sameKey_ne (fun e=>h6 ?_)⟩;injection e
end
theorem SA{b m:Nat}{w:World}{D:DataW Unit}{ss:List Tx}{S:Tx->Prop}(ag:w.ownsMap Tryz.prog 9 (plainElem Tryz.prog 4) b m D)(hD:∀t,has D (.string t)=true↔S t)(hp:ss.Perm (strKeys D)):
  Asc (ss.mergeSort (fun x y=>decide (x<=y)))/\∀t,t∈ss.mergeSort (fun x y=>decide (x<=y))↔S t:=by
 have hm:∀t,t∈ss.mergeSort (fun x y=>decide (x<=y))↔S t:=fun t=>by
  rw[List.mem_mergeSort,hp.mem_iff,Dx.keys ag,hD t]
 have hnd:ss.Nodup:=by
  obtain⟨es,clock,hb,F,hs,pV⟩:=ag;have pC:=fit_apart (string_keyed Tryz.underlying9) F;have h2:(strKeys D).Nodup:=by
   rw[pV];show ((((es.toList.map (Go.WideElems.rg Tryz.prog 9 (plainElem Tryz.prog 4))).foldr DataW.insert [])).map fun p=>strOf p.1).Nodup;have hk:=fit_keys F;refine((sorted_perm _).map _).nodup_iff.2 ?_
   refine List.pairwise_map.2 (pC.imp_of_mem fun {p q} hp' hq' hne e=>hne ?_);obtain⟨v,hv⟩:=hk p hp';obtain⟨v',uz⟩:=hk q hq';obtain⟨x,_,hx,_⟩:=Maps.keyOf_str Tryz.underlying9 hv;obtain⟨y,_,hy,_⟩:=Maps.keyOf_str Tryz.underlying9 uz;rw[hx,hy]at e ⊢;exact congrArg _ e
  exact hp.nodup_iff.2 h2
 refine⟨?_,hm⟩;have hs:=GV ss;have rR:(ss.mergeSort (fun x y=>decide (x<=y))).Nodup:=(List.mergeSort_perm ss _).nodup_iff.2 hnd;exact(hs.and rR).imp fun {a b} ⟨h1,h2⟩=>Dp h1 h2
open Go.RowKit Go.Maps Go.Sort
def Ka(ns:List Nd)(env:Env)(id:Int)(l:List Tx)(c:Int):Prop:=
 (¬(0<=id/\id<(ns.length:Int))/\l=[]/\c=1)\/
 (0<=id/\id<(ns.length:Int)/\¬B8 ns env id.toNat/\l=[]/\c=8)\/
 (0<=id/\id<(ns.length:Int)/\B8 ns env id.toNat/\c=0/\Asc l/\∀t,t∈l↔B2 ns env id.toNat t)
theorem Ka.uniq{ns:List Nd}{env:Env}{id:Int}{l l':List Tx}{c c':Int}(h:Ka ns env id l c)(h':Ka ns env id l' c'):l=l'/\c=c':=by
 rcases h with ⟨h1,rfl,rfl⟩|⟨h1,h2,h3,rfl,rfl⟩|⟨h1,h2,h3,rfl,h4,h5⟩
 ·rcases h' with ⟨k1,rfl,rfl⟩|⟨k1,k2,k3,_⟩|⟨k1,k2,k3,_⟩
  ·exact⟨rfl,rfl⟩
  ·exact absurd ⟨k1,k2⟩ h1
  ·exact absurd ⟨k1,k2⟩ h1
 ·rcases h' with ⟨k1,_⟩|⟨k1,k2,k3,rfl,rfl⟩|⟨k1,k2,k3,_⟩
  ·exact absurd ⟨h1,h2⟩ k1
  ·exact⟨rfl,rfl⟩
  ·exact absurd k3 h3
 ·rcases h' with ⟨k1,_⟩|⟨k1,k2,k3,_⟩|⟨k1,k2,k3,rfl,k4,k5⟩
  ·exact absurd ⟨h1,h2⟩ k1
  ·exact absurd h3 k3
  ·exact⟨Hl h4 k4 (fun x=>(h5 x).trans (k5 x).symm),rfl⟩
def DQ(ns:List Nd)(env:Env)(id:Int)(w:World)(e:Ending)(w':World):Prop:=∃v l c,e= .returned (.tuple #[v,.int .i64 c])/\Bl w' v l/\Ka ns env id l c/\l.length<=1000000/\(∀t∈l,t.length<=400)/\Ext w w'
theorem Ct.texts{ns:List Nd}{env:Env}(h:Ct ns env)(hf:ns.length<=4096):TxE env:=by
 intro b hb;have h1:=FC (Bool.and_eq_true_iff.1 (h.name b hb)).1;have h2:=h.node b hb;refine⟨by omega,?_⟩;have e1:IntKind.i64.min= -9223372036854775808:=by decide
 have e2:IntKind.i64.max=9223372036854775807:=by decide
 simp only[Lit.wf,e1,e2,Bool.and_eq_true,decide_eq_true_eq];omega
theorem Ct.map{ns:List Nd}{env:Env}(h:Ct ns env):Tz env (BW env):=fun t=>Od h.asc (fun b hb=>(h.node b hb).1) t
theorem AX.dep{ns:List Nd}{env:Env}(h:Ct ns env){id:Int}(h0:0<=id)(h1:id<(ns.length:Int))(t:Tx):C0 ns (BW env) (AX ns id) t↔B2 ns env id.toNat t:=by
 rw[Jm h.map];unfold B2;constructor
 ·exact AA.mono (fun t ht=>ht.2.2)
 ·exact AA.mono (fun t ht=>⟨h0,h1,ht⟩)
theorem B2.memG{ns:List Nd}{env:Env}{i:Nat}{t:Tx}(h:B2 ns env i t):t∈CA ns:=by
 rcases AA.mem h with h|h
 ·exact h.mem
 ·exact h
theorem KU(B g b:Nat)(w:World)(ns:List Nd)(nv:Value)(h:GrP B g b w ns nv)(v:Value)(env:Env)(he:RdE w v env)(av:Ct ns env)(id:Int):
  Calls Tryz.prog 43 #[.pointer (some ⟨g,0,none⟩),v,.int .i64 id] w (DQ ns env id w):=by
 have HG:=J h;have lk:=J he;have cD:=J av;have fc:=J (fun W hx=>JL B g b W ns nv (h.keep (w':=W) hx) id);obtain⟨A,c,rfl⟩:=GR he;unfold DQ;clear h he av;by_cases hin:0<=id/\id<(ns.length:Int);rotate_left
 ·rw[decide_eq_false hin]at fc;have HE:=J (fun (w':World) (hx:Ext w w')=>(⟨.slice none 0 0,[],1,rfl,BS.none_ w',.inl ⟨hin,rfl,rfl⟩,by decide,(fun t ht=>by cases ht),hx⟩:∃v l c,Ending.returned (.tuple #[.slice none 0 0,.int .i64 1])= .returned (.tuple #[v,.int .i64 c])/\Bl w' v l/\Ka ns env id l c/\l.length<=1000000/\(∀t∈l,t.length<=400)/\Ext w w'));clear hin;go_enter Tryz.func43,Tryz.ntmps43;go_wp2_with fail;refine(fc.o w (Ext.refl w)).mono ?_
  rintro e w1 ⟨rfl,am⟩;have ah:=J am;clear am;go_wp2_with fail;go_ret2;exact HE.o _ ah.o
 ·rw[decide_eq_true hin]at fc;have gV:=J hin;clear hin;go_enter Tryz.func43,Tryz.ntmps43;go_wp2_with fail;refine(fc.o w (Ext.refl w)).mono ?_
  rintro e w1 ⟨rfl,am⟩;have ah:=J am;have hfew:=HG.o.few;have aQ:=J (EJ w1 _ env (lk.o.ext am) (by have:=cD.o.few;omega) (cD.o.texts hfew));clear am fc;go_wp2_with fail;refine aQ.o.mono ?_
  rintro e w2 ⟨bm,rfl,ea,aX,au⟩;have aq:=J (ah.o.trans au);have aP:=J aX;have bG:=J (Dl B g b w2 ns nv (HG.o.keep aq.o) id);unfold CF at bG;clear ea aX au aQ;go_wp2_with fail;refine bG.o.mono ?_
  rintro e w3 ⟨v3,l,rfl,_,eu,_,ae,lw⟩;have aj:=J (aq.o.trans ae);obtain⟨hl2,fS⟩:=AQ.texts HG.o.ok eu;have aD:=J (AS.ext aP.o ae);have mu:=J (GD B g b w3 ns nv (HG.o.keep aj.o) bm _ _ aD.o _ v3 l lw (by omega) (fun t ht=>by have:=BM HG.o.ok t (fS t ht);omega) (AX ns id) (AX.mem eu));unfold F1 at mu;obtain⟨A3,c3,rfl⟩:=lw.shape;clear eu ae lw hl2 fS bG aP;go_wp2_with fail;refine mu.o.mono ?_
  rintro e w4 ⟨sb,c4,rfl,hsb,mh,vI,aR⟩;have aE:=J (aj.o.trans aR);have eJ:=J (AS.ext aD.o aR);have oG:=J mh;obtain⟨w5,UD,jC,nF,hx5,xH⟩:=mh.range;have bg:=J (aE.o.trans hx5);have dP:=J (AS.ext eJ.o hx5);have bW:=J nF;have xA:Hid (bm<w4.heap.size):=J (AS.lt eJ.o);obtain⟨rb,jF⟩:∃rb,rb=w4.heap.size:=⟨_,rfl⟩;rw[<-jF]at jC bW xA;have kZ:Hid (w.heap.size<=rb):=J (by have:=aE.o.size;omega);have HC4:=J vI;clear hsb mh aR nF hx5 xH jF vI mu aD;go_wp2_with fail;clear jC;go_loopw [10,11,12] (fun _ _ _ wr=>∃L cnt,RgS wr sb rb c4 (C0 ns (BW env) (AX ns id)) L cnt/\(∀t,C0 ns (BW env) (AX ns id) t->L t\/0<=Ao env t)/\D7 wr bm env.length (BW env)/\Ext w wr) (fun _ _ _ wr=>wr.rangeLeft sb rb)
  case atStart=>exact⟨_,_,bW.o,fun t ht=> .inl ht,dP.o,bg.o⟩
  case round=>
   clear bW dP bg eJ aE oG aj;obtain⟨L,cnt,jE,gB,ea,hx⟩:=hrel;have dN:=J jE.left_eq;rcases jE.next 0 with ⟨h0,hL,aV⟩|⟨t,q,w6,UC,hL,hS,ao,aV,jD,hlt,al,pO⟩
   ·have cT:Hid (B8 ns env id.toNat):=J (fun t ht=>(gB t ((AX.dep cD.o gV.o.1 gV.o.2 t).2 ht)).resolve_left (hL t));obtain⟨D,ag,hD⟩:=jE.smap.set;have cQ:=ag.size_le;have vI:=HC4.o;have cF:=J (fun ss hp=>SA (ss:=ss) ag hD hp);have gI:Hid ((strKeys D).length<=1000000):=J (by
     obtain⟨es,rfl,_⟩:=ag.keysOf;simp only[strKeys,List.length_map];simp only[Maps.size]at cQ;omega)
    have HX:=J hx;have Vh:=J (fun mb W=>callsIn_wide.1 (Tryz.maps_KeysIt mb W));have gS:=J (callsIn_wide.1 (Tryz.slices_SortedIt sb c4 D _ wr ag (by unfold maxLen;omega) (by omega)));clear ag hD cQ vI jE gB ea hx hL dN;go_wp2_with fail;refine(Vh.o _ _).mono ?_
    rintro e w7 ⟨rfl,rfl⟩;go_wp2_with fail;refine gS.o.mono ?_
    rintro e w8 ⟨v8,ss,rfl,hp,aH,_,fh⟩;have hl:(ss.mergeSort (fun x y=>decide (x<=y))).length=ss.length:=List.length_mergeSort ss;have HE:=J (And.intro (Bl.of_row aH hl) (And.intro (cF.o ss hp) (And.intro (show (ss.mergeSort (fun x y=>decide (x<=y))).length<=1000000 by rw[hl,hp.length_eq];exact gI.o) ((HX.o.alloc _).trans fh))));clear hp aH fh hl;go_wp2_with fail;go_ret2;exact⟨v8,_,_,rfl,HE.o.1,.inr (.inr ⟨gV.o.1,gV.o.2,cT.o,rfl,HE.o.2.1.1,fun t=>(HE.o.2.1.2 t).trans (AX.dep cD.o gV.o.1 gV.o.2 t)⟩),HE.o.2.2.1,fun t ht=>BM HG.o.ok t (B2.memG ((AX.dep cD.o gV.o.1 gV.o.2 t).1 ((HE.o.2.1.2 t).1 ht))),HE.o.2.2.2⟩
   ·have hne:rb≠bm:=by have:=xA.o;omega
    have iN:D7 w6 bm env.length (BW env):=AS.at ea (al.block bm (AS.lt ea) (fun e=>hne (by injection e with e;exact e.symm)));obtain⟨gz,_⟩:=iN.look t ao;have fq:=cD.o.map t;have aO:=J (hx.grown al (fun k e=>by injection e with e;subst e;exact kZ.o));have ng:=J iN;have db:=J jD;have aW:=J hlt;have mK:=J gB;by_cases hf:0<=Ao env t
    ·rw[if_pos hf]at fq;rw[fq]at gz;have Vr:Hid (∀s,C0 ns (BW env) (AX ns id) s->(L s/\s≠t)\/0<=Ao env s):=J (fun s hs=>by
      by_cases e:s=t
      ·exact .inr (e ▸ hf)
      ·exact(mK.o s hs).imp (fun h=>⟨h,e⟩) (fun h=>h))
     simp only[Option.getD_some,Option.isSome_some]at gz;obtain⟨u,hu⟩:∃u:ByteArray,str t= .string u:=⟨_,rfl⟩;rw[hu]at gz aV pO;clear hf fq jE gB ea hx jD hlt al iN hu hL hS hne;go_wp2_with fail;go_roundw
     case rel=>exact⟨_,_,db.o,Vr.o,ng.o,aO.o⟩
     case measure=>rw[dN.o,db.o.left_eq];exact aW.o
    ·rw[if_neg hf]at fq;rw[fq]at gz;have bD:Hid (¬B8 ns env id.toNat):=J (fun hbd=>hf (hbd t ((AX.dep cD.o gV.o.1 gV.o.2 t).1 hS)));simp only[Option.getD_none,Option.isSome_none]at gz;obtain⟨u,hu⟩:∃u:ByteArray,str t= .string u:=⟨_,rfl⟩;rw[hu]at gz aV pO;clear hf fq jE gB ea hx jD hlt al iN hu hL hS hne;go_wp2_with fail;go_ret2;exact⟨.slice none 0 0,[],8,rfl,BS.none_ _,.inr (.inl ⟨gV.o.1,gV.o.2,bD.o,rfl,rfl⟩),by decide,(fun t ht=>by cases ht),aO.o⟩
theorem Eh(p:Tx->Bool)(t:Tx):∀env:Env,Ao (env.filter fun b=>p b.1) t=if p t then Ao env t else-1
 |[]=>by simp[Ao]
 |b::l=>by
  have ih:=Eh p t l;by_cases hb:p b.1=true
  ·rw[List.filter_cons_of_pos (p:=fun b:Tx × Int=>p b.1) hb,Ao,Ao,ih];by_cases he:b.1=t
   ·rw[if_pos he,if_pos he,<-he,if_pos hb]
   ·rw[if_neg he,if_neg he]
  ·rw[List.filter_cons_of_neg (p:=fun b:Tx × Int=>p b.1) hb,ih,Ao];by_cases he:b.1=t
   ·rw[<-he,if_neg hb,if_neg hb]
   ·rw[if_neg he]
theorem GP{a b:Env}{t:Tx}(h:∀x∈b,x.1≠t):Ao (a++b) t=Ao a t:=by
 rw[H8];split
 ·rfl
 ·rename_i hno;rw[Fm h,Fm (fun x hx e=>hno ⟨x,hx,e⟩)]
theorem IE{a b:Env}{t:Tx}(h:∀x∈a,x.1≠t):Ao (a++b) t=Ao b t:=by
 rw[H8,if_neg];rintro⟨x,hx,e⟩;exact h x hx e
theorem No{a b:Tx}(h:a≠b):a<b\/b<a:=by
 rcases Decidable.em (a<b) with h1|h1
 ·exact .inl h1
 ·exact .inr (Dp (List.not_lt.1 h1) (fun e=>h e.symm))
def DW(env:Env)(t:Tx):Env:=env.filter fun b=>decide (b.1<t)
def Dk(env:Env)(t:Tx):Env:=env.filter fun b=>decide (t<b.1)
def Dy(env:Env)(t:Tx)(i:Int):Env:=DW env t++[(t,i)]++Dk env t
def Dt(env:Env)(t:Tx):Env:=env.filter fun b=>decide (b.1≠t)
theorem Fl(env:Env)(t x:Tx):Ao (Dt env t) x=if x=t then-1 else Ao env x:=by
 unfold Dt;rw[Eh (fun y=>decide (y≠t))];by_cases h:x=t<;>simp[h]
theorem LH{env:Env}{t:Tx}{b:Tx × Int}:b∈DW env t↔b∈env/\b.1<t:=by unfold DW;simp
theorem JN{env:Env}{t:Tx}{b:Tx × Int}:b∈Dk env t↔b∈env/\t<b.1:=by unfold Dk;simp
theorem JU(env:Env)(t:Tx)(i:Int)(x:Tx):Ao (Dy env t i) x=if x=t then i else Ao env x:=by
 unfold Dy;by_cases h:x=t
 ·subst h;rw[if_pos rfl,GP (fun b hb e=>by have:=(JN.1 hb).2;rw[e]at this;exact Bt _ this),IE (fun b hb e=>by have:=(LH.1 hb).2;rw[e]at this;exact Bt _ this)];simp[Ao]
 ·rw[if_neg h];rcases No h with h1|h1
  ·rw[GP (fun b hb e=>by have:=(JN.1 hb).2;rw[e]at this;exact Bt _ (Ep this h1)),GP (fun b hb e=>by rw[List.mem_singleton]at hb;subst hb;exact h e.symm)];unfold DW;rw[Eh (fun y=>decide (y<t)),if_pos (decide_eq_true h1)]
  ·rw[IE (fun b hb e=>by
    rcases List.mem_append.1 hb with hb|hb
    ·have:=(LH.1 hb).2;rw[e]at this;exact Bt _ (Ep this h1)
    ·rw[List.mem_singleton]at hb;subst hb;exact h e.symm)]
   unfold Dk;rw[Eh (fun y=>decide (t<y)),if_pos (decide_eq_true h1)]
theorem F8{env:Env}{t:Tx}{i:Int}{b:Tx × Int}:b∈Dy env t i↔b=(t,i)\/(b∈env/\b.1≠t):=by
 unfold Dy;rw[List.mem_append,List.mem_append,List.mem_singleton,LH,JN];constructor
 ·rintro((⟨h1,h2⟩|h)|⟨h1,h2⟩)
  ·exact .inr ⟨h1,fun e=>by rw[e]at h2;exact Bt _ h2⟩
  ·exact .inl h
  ·exact .inr ⟨h1,fun e=>by rw[e]at h2;exact Bt _ h2⟩
 ·rintro(h|⟨h1,h2⟩)
  ·exact .inl (.inr h)
  ·rcases No h2 with h|h
   ·exact .inl (.inl ⟨h1,h⟩)
   ·exact .inr ⟨h1,h⟩
theorem OU(env:Env)(t:Tx)(i:Int):(Dy env t i).length<=env.length+1:=by
 have key:∀l:Env,(DW l t).length+(Dk l t).length<=l.length:=by
  intro l
  induction l with
  |nil=>simp[DW,Dk]
  |cons b l ih=>
   unfold DW Dk at ih ⊢;by_cases h1:b.1<t
   ·rw[List.filter_cons_of_pos (by simpa using h1),List.filter_cons_of_neg (by simpa using L3 h1),List.length_cons,List.length_cons];omega
   ·rw[List.filter_cons_of_neg (by simpa using h1),List.length_cons];have:=List.length_filter_le (fun b:Tx × Int=>decide (t<b.1)) [b];by_cases h2:t<b.1
    ·rw[List.filter_cons_of_pos (by simpa using h2),List.length_cons];omega
    ·rw[List.filter_cons_of_neg (by simpa using h2)];omega
 have:=key env;unfold Dy;simp only[List.length_append,List.length_singleton];omega
theorem SH{env:Env}(h:DB env)(t:Tx)(i:Int):DB (Dy env t i):=by
 unfold DB Asc at *;unfold Dy DW Dk;rw[List.map_append,List.map_append,List.pairwise_append,List.pairwise_append];have hp:∀p:Tx × Int->Bool,((env.filter p).map (·.1)).Pairwise (·<·):=fun p=>List.Pairwise.sublist (List.Sublist.map _ List.filter_sublist) h
 have hl:∀a,a∈(env.filter fun b=>decide (b.1<t)).map (·.1)->a<t:=fun a ha=>by
  obtain⟨b,hb,rfl⟩:=List.mem_map.1 ha
  simpa using (List.mem_filter.1 hb).2
 have hh:∀a,a∈(env.filter fun b=>decide (t<b.1)).map (·.1)->t<a:=fun a ha=>by
  obtain⟨b,hb,rfl⟩:=List.mem_map.1 ha
  simpa using (List.mem_filter.1 hb).2
 refine⟨⟨hp _,by simp,fun a ha b hb=> ?_⟩,hp _,fun a ha b hb=> ?_⟩
 ·rw[List.map_cons,List.map_nil,List.mem_singleton]at hb;subst hb;exact hl a ha
 ·rcases List.mem_append.1 ha with ha|ha
  ·exact Ep (hl a ha) (hh b hb)
  ·rw[List.map_cons,List.map_nil,List.mem_singleton]at ha;subst ha;exact hh b hb
section
variable {ns:List Nd} {env:Env}
theorem Rk(he:AO ns env)(hf:env.length<=63){t:Tx}(ht:Cs t=true){i:Nat}(hi:i<ns.length):
  AO ns (Dy env t (i:Int))↔(∀s,AB ns i s->0<=Ao (Dy env t (i:Int)) s)/\¬AA ns (Dt env t) (AB ns i) t:=by
 have vv:Ao (Dy env t (i:Int)) t=(i:Int):=by rw[JU,if_pos rfl]
 have lE:∀x,x≠t->Ao (Dy env t (i:Int)) x=Ao (Dt env t) x:=fun x hx=>by rw[JU,if_neg hx,Fl,if_neg hx]
 have V4:∀x,0<=Ao (Dt env t) x->Ao (Dt env t) x=Ao env x/\x≠t:=fun x hx=>by
  rw[Fl]at hx ⊢;by_cases h:x=t
  ·rw[if_pos h]at hx;omega
  ·exact⟨if_neg h,h⟩
 have Yj:∀{T:Tx->Prop} {x:Tx},AA ns (Dt env t) T x->AA ns (Dy env t (i:Int)) T x:=fun h=>by
  induction h with
  |here h=>exact .here h
  |step _ h1 h2 ih=>
   have h3:=lE _ (V4 _ h1).2;exact .step ih (by rw[h3];exact h1) (by rw[h3];exact h2)
 have Yi:∀{T:Tx->Prop} {x:Tx},AA ns (Dt env t) T x->AA ns env T x:=fun h=>by
  induction h with
  |here h=>exact .here h
  |step _ h1 h2 ih=>
   have h3:=(V4 _ h1).1;exact .step ih (by rw[<-h3];exact h1) (by rw[<-h3];exact h2)
 constructor
 ·intro hg;have hm:(t,(i:Int))∈Dy env t (i:Int):=F8.2 (.inl rfl);refine⟨fun s hs=>hg.bound _ hm s (.here (by simpa using hs)),fun hr=>hg.free _ hm ?_⟩;have:=Yj hr
  simpa [B2] using this
 ·rintro⟨hb,hc⟩;have qH:∀x,AA ns (Dy env t (i:Int)) (AB ns i) x->AA ns (Dt env t) (AB ns i) x:=by
   intro x hx
   induction hx with
   |here h=>exact .here h
   | @step y z _ h1 h2 ih=>
     have hne:y≠t:=fun e=>hc (e ▸ ih)
     rw[lE y hne]at h1 h2;exact .step ih h1 h2
  have uZ:∀b∈Dy env t (i:Int),0<=b.2/\b.2<(ns.length:Int):=by
   intro b hb;rcases F8.1 hb with rfl|⟨h1,_⟩
   ·exact⟨by simp,by simpa using hi⟩
   ·exact he.ok.node b h1
  have vE:∀b∈Dy env t (i:Int),∀s,AB ns b.2.toNat s->0<=Ao (Dy env t (i:Int)) s:=by
   intro b hb2 s hs;rcases F8.1 hb2 with rfl|⟨h1,_⟩
   ·exact hb s (by simpa using hs)
   ·have h3:=he.bound b h1 s (.here hs);rw[JU];split
    ·exact Int.natCast_nonneg _
    ·exact h3
  have sl:∀b∈Dy env t (i:Int),B8 ns (Dy env t (i:Int)) b.2.toNat:=by
   intro b hb2 s hs;cases hs with
   |here h=>exact vE b hb2 s h
   | @step y _ hy h1 h2=>
     have hm:=K7 (env:=Dy env t (i:Int)) (t:=y) (by omega);exact vE _ hm s h2
  refine⟨⟨by have:=OU env t (i:Int);omega,fun b hb2=> ?_,uZ,SH he.ok.asc t _⟩,sl,?_⟩
  ·rcases F8.1 hb2 with rfl|⟨h1,_⟩
   ·exact ht
   ·exact he.ok.name b h1
  ·intro b hb2 hd;rcases F8.1 hb2 with rfl|⟨h1,h2⟩
   ·exact hc (qH _ (by simpa [B2] using hd))
   ·
    have key:∀x,AA ns (Dy env t (i:Int)) (AB ns b.2.toNat) x->AA ns (Dt env t) (AB ns b.2.toNat) x\/(AA ns (Dt env t) (AB ns b.2.toNat) t/\AA ns (Dy env t (i:Int)) (AB ns i) x):=by
     intro x hx
     induction hx with
     |here h=>exact .inl (.here h)
     | @step y z _ h3 h4 ih=>
       rcases ih with ih|⟨ih1,ih2⟩
       ·by_cases hy:y=t
        ·subst hy;rw[vv]at h4;exact .inr ⟨ih,.here (by simpa using h4)⟩
        ·rw[lE y hy]at h3 h4;exact .inl (.step ih h3 h4)
       ·exact .inr ⟨ih1,.step ih2 h3 h4⟩
    have lH:Ao (Dt env t) b.1=b.2:=by rw[Fl,if_neg h2,M3 he.ok.asc h1]
    have hb0:=(he.ok.node b h1).1;rcases key b.1 hd with h3|⟨h3,h4⟩
    ·exact he.free b h1 (Yi h3)
    ·refine hc (AA.trans (fun s hs=> ?_) h3);exact .step (qH _ h4) (by rw[lH];exact hb0) (by rw[lH];exact hs)
end
theorem R7(env:Env):DB (env.take 0):=by rw[List.take_zero];simp[DB,Asc]
theorem Le{env:Env}(h:0<env.length):DB (env.take (0+1)):=by
 rw[List.take_succ_eq_append_getElem h,List.take_zero];simp[DB,Asc]
theorem Nf{env:Env}{p:Nat}(h:p+1<env.length)(ha:DB (env.take (p+1)))(hlt:env[p].1<env[p+1].1):DB (env.take (p+1+1)):=by
 rw[List.take_succ_eq_append_getElem h];unfold DB Asc at *;rw[List.map_append,List.pairwise_append];refine⟨ha,by simp,fun a hm b hb=> ?_⟩;rw[List.map_cons,List.map_nil,List.mem_singleton]at hb;subst hb;have hp:p<env.length:=by omega
 rw[List.take_succ_eq_append_getElem hp,List.map_append,List.pairwise_append]at ha;rw[List.take_succ_eq_append_getElem hp,List.map_append]at hm;rcases List.mem_append.1 hm with hm|hm
 ·exact Ep (ha.2.2 a hm _ (by simp)) hlt
 ·rw[List.map_cons,List.map_nil,List.mem_singleton]at hm;subst hm;exact hlt
theorem S3{env:Env}{p:Nat}(h:p+1<env.length)(hn:¬env[p].1<env[p+1].1):¬DB env:=by
 intro ha;unfold DB Asc at ha;rw[List.pairwise_iff_getElem]at ha;have:=ha p (p+1) (by rw[List.length_map];omega) (by rw[List.length_map];omega) (by omega);rw[List.getElem_map,List.getElem_map]at this;exact hn this
def Fx(ns:List Nd)(env:Env)(k:Nat):Prop:=(∀b∈env.take k,Cs b.1=true/\0<=b.2/\b.2<(ns.length:Int))/\DB (env.take k)
theorem Fx.start(ns:List Nd)(env:Env):Fx ns env 0:=⟨(fun b hb=>by rw[List.take_zero]at hb;cases hb),R7 env⟩
theorem Fx.step{ns:List Nd}{env:Env}{k:Nat}(h:Fx ns env k)(hk:k<env.length)(hn:Cs env[k].1=true)(hd:0<=env[k].2/\env[k].2<(ns.length:Int))(ha:DB (env.take (k+1))):Fx ns env (k+1):=by
 refine⟨fun b hb=> ?_,ha⟩;rw[List.take_succ_eq_append_getElem hk]at hb;rcases List.mem_append.1 hb with hb|hb
 ·exact h.1 b hb
 ·rw[List.mem_singleton]at hb;subst hb;exact⟨hn,hd⟩
theorem Fx.ok{ns:List Nd}{env:Env}{k:Nat}(h:Fx ns env k)(hk:env.length<=k)(hf:env.length<=64):Ct ns env:=by
 unfold Fx at h;rw[List.take_of_length_le hk]at h;exact⟨hf,fun b hb=>(h.1 b hb).1,fun b hb=>(h.1 b hb).2,h.2⟩
theorem Pe{ns:List Nd}{env:Env}(h:¬env.length<=64):¬AO ns env:=fun he=>h he.ok.few
theorem Nc{ns:List Nd}{env:Env}{k:Nat}(hk:k<env.length)(h:Cs env[k].1=false):¬AO ns env:=fun he=>by
 rw[he.ok.name _ (List.getElem_mem hk)]at h;cases h
theorem Nb{ns:List Nd}{env:Env}{k:Nat}(hk:k<env.length)(h:¬(0<=env[k].2/\env[k].2<(ns.length:Int))):¬AO ns env:=fun he=>h (he.ok.node _ (List.getElem_mem hk))
theorem Pf{ns:List Nd}{env:Env}{p:Nat}(h:p+1<env.length)(hn:¬env[p].1<env[p+1].1):¬AO ns env:=fun he=>S3 h hn he.ok.asc
def Fy(ns:List Nd)(env:Env)(k:Nat):Prop:=∀b∈env.take k,B8 ns env b.2.toNat/\¬B2 ns env b.2.toNat b.1
theorem Fy.start(ns:List Nd)(env:Env):Fy ns env 0:=fun b hb=>by rw[List.take_zero]at hb;cases hb
theorem Fy.step{ns:List Nd}{env:Env}{k:Nat}(h:Fy ns env k)(hk:k<env.length)(h1:B8 ns env env[k].2.toNat)(h2:¬B2 ns env env[k].2.toNat env[k].1):Fy ns env (k+1):=by
 intro b hb;rw[List.take_succ_eq_append_getElem hk]at hb;rcases List.mem_append.1 hb with hb|hb
 ·exact h b hb
 ·rw[List.mem_singleton]at hb;subst hb;exact⟨h1,h2⟩
theorem Fy.good{ns:List Nd}{env:Env}{k:Nat}(h:Fy ns env k)(hk:env.length<=k)(ho:Ct ns env):AO ns env:=by
 unfold Fy at h;rw[List.take_of_length_le hk]at h;exact⟨ho,fun b hb=>(h b hb).1,fun b hb=>(h b hb).2⟩
end Big
end Go.Proofs.YtkoaogkknnelaaaGreatDoor
