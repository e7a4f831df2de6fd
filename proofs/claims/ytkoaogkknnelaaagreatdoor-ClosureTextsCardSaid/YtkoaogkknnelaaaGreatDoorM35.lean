import Derived.Test.YtkoaogkknnelaaaGreatDoorM34
import Derived.Maps.RangeWalk
set_option linter.unusedVariables false
set_option linter.unusedSimpArgs false
set_option maxHeartbeats 8000000
set_option maxRecDepth 100000
namespace Go.Proofs.YtkoaogkknnelaaaGreatDoor
namespace Big
open Lib renaming hid → J
open Go.RowKit
theorem JG(B g b:Nat)(w:World)(ns:List Nd)(nv:Value)(h:GrP B g b w ns nv)(i:Int):
  Calls Tryz.prog 96 #[.pointer (some ⟨g,0,none⟩),.int .i64 i] w fun e w'=>e= .returned (.bool (decide (0<=i/\i<(ns.length:Int))))/\Ext w w':=by
 have aQ:=J (EU B g b w ns nv h i);clear h;obtain⟨d,hd⟩:∃d,decide (0<=i/\i<(ns.length:Int))=d:=⟨_,rfl⟩;have key:∃(k a c n:Int) (s:ByteArray),KT ns i= .tuple #[.agg #[.int .i64 k,.int .i64 a,.int .i64 c,.int .i64 n,.string s],.bool d]:=by
  by_cases hi:0<=i/\i<(ns.length:Int)
  ·obtain⟨k,rfl⟩:∃k:Nat,i=(k:Int):=⟨i.toNat,by omega⟩;rw[EP (by omega),<-hd,decide_eq_true hi];exact⟨_,_,_,_,_,rfl⟩
  ·rw[KS (by omega),<-hd,decide_eq_false hi];exact⟨_,_,_,_,_,rfl⟩
 obtain⟨k,a,c,n,s,hk⟩:=key;rw[hk]at aQ;rw[hd];clear hk hd;go_enter Tryz.func96,Tryz.ntmps96;go_wp2_with fail;refine aQ.o.mono ?_
 rintro e w1 ⟨rfl,ar⟩;have ah:=J ar;clear ar aQ;go_wp2_with fail;go_ret;exact⟨rfl,ah.o.alloc _⟩
open Go.RowKit Go.Maps Go.Sort Go.WideShapes Go.ChangeMaps Go.MapKept
theorem LJ{key:Value}{kl:Lit}(h:keyOf Tryz.prog 9 key=some kl):∃t:Tx,key=str t/\kl= .string t/\t.length<=maxLen:=by
 have hk:=Tryz.underlying9;cases key<;>simp[keyOf,hk,mapKey]at h;rename_i s;obtain⟨h1,rfl⟩:=h;refine⟨s.data.toList,rfl,rfl,?_⟩
 simpa using h1
def RgS(w:World)(b r n:Nat)(S L:Tx->Prop)(cnt:Nat):Prop:=∃(D:DataW Unit) (left:Lit->Bool),w.ranges Tryz.prog 9 (plainElem Tryz.prog 4) b r n D left cnt/\(∀k zd,D.atKey k zd=(GQ S k).elim zd DataW.lit)/\(∀k,has D k=(GQ S k).isSome)/\∀t,left (.string t)=true↔L t
section
variable {w w':World} {b r m n cnt:Nat} {S L:Tx->Prop}
theorem PY(S:Tx->Prop)(t:Tx):(GQ S (.string t)).isSome=true↔S t:=by
 by_cases h:S t<;>simp[GQ,h]
theorem Ev.range(h:Ev w b m S):∃w' cnt,(Instr.range 151 (.map (some b))).run Tryz.prog w= .ok (.pointer (some ⟨w.heap.size,0,none⟩)) w'/\RgS w' b w.heap.size m S S cnt/\Ext w w'/\w'.heap.size=w.heap.size+1:=by
 obtain⟨D,h,h2,h3⟩:=h;obtain⟨w',hr,kc,hg,hs⟩:=h.range (string_keyed Tryz.underlying9) Tryz.underlying151;refine⟨w',_,hr,⟨D,_,kc,h2,h3,fun t=> ?_⟩,(Ext.refl w).grown hg (fun j e=>by cases e),hs⟩;rw[h3];exact PY S t
theorem RgS.left_eq(h:RgS w b r n S L cnt):w.rangeLeft b r=cnt:=by
 obtain⟨_,_,h,_⟩:=h;exact h.left_eq
theorem RgS.smap(h:RgS w b r n S L cnt):Ev w b n S:=by
 obtain⟨D,_,h,h2,h3,_⟩:=h;exact⟨D,h.owns,h2,h3⟩
theorem RgS.next(h:RgS w b r n S L cnt)(ty:TypeId):
  (cnt=0/\(∀t,¬L t)/\(Instr.next (.pointer (some ⟨r,0,none⟩)) false ty).run Tryz.prog w= .ok (.tuple #[.bool false]) w)\/
  ∃t v w' qQ,L t/\S t/\t.length<=maxLen/\(Instr.next (.pointer (some ⟨r,0,none⟩)) false ty).run Tryz.prog w= .ok (.tuple #[.bool true,str t,.bool v]) w'/\RgS w' b r n S (fun x=>L x/\x≠t) qQ/\qQ<cnt/\w.grownBy w' (some r)/\(Instr.entry (.pointer (some ⟨r,0,none⟩))).run Tryz.prog w'= .ok (.tuple #[str t,.bool v]) w':=by
 obtain⟨D,left,h,h2,h3,h4⟩:=h;have K:=string_keyed Tryz.underlying9;rcases h.next K ty with ⟨h0,hl,bq⟩|⟨key,v,kl,y,w',qQ,hkey,lZ,hv,hat,bq,kc,hlt,hgr,hsz,xm⟩
 ·refine .inl ⟨h0,fun t ht=> ?_,bq⟩;rw[<-h4,hl]at ht;cases ht
 ·obtain⟨t,rfl,rfl,ak⟩:=LJ hkey;obtain⟨x,rfl,rfl⟩:=Eh Tryz.underlying4 hv;refine .inr ⟨t,x,w',qQ,(h4 t).1 lZ,?_,ak,bq,⟨D,_,kc,h2,h3,fun s=> ?_⟩,hlt,hgr,xm⟩
  ·have e1:=(hat (.lit (.bool true))).symm.trans (h2 _ _);have e2:=(hat (.lit (.bool false))).symm.trans (h2 _ _);by_cases hs:S t
   ·exact hs
   ·rw[show GQ S (.string t)=none by simp[GQ,hs]]at e1 e2;have e3:=e1.symm.trans e2;simp at e3
  ·simp only[qaM,Bool.not_eq_true'];rw[h4];constructor
   ·rintro⟨h5,h6⟩;refine⟨h5,fun e=> ?_⟩;subst e;rw[WideAt.sameKey_self (K.key hkey)]at h6;cases h6
   ·rintro⟨h5,h6⟩;refine⟨h5,Maps.sameKey_ne (fun e=>h6 ?_)⟩;injection e
end
theorem Tk{b m:Nat}{w:World}{D:DataW Unit}{ss:List Tx}{S:Tx->Prop}(ac:w.ownsMap Tryz.prog 9 (plainElem Tryz.prog 4) b m D)(hD:∀t,has D (.string t)=true↔S t)(hp:ss.Perm (strKeys D)):
  Asc (ss.mergeSort (fun x y=>decide (x<=y)))/\∀t,t∈ss.mergeSort (fun x y=>decide (x<=y))↔S t:=by
 have hm:∀t,t∈ss.mergeSort (fun x y=>decide (x<=y))↔S t:=fun t=>by
  rw[List.mem_mergeSort,hp.mem_iff,Do.keys ac,hD t]
 have hnd:ss.Nodup:=by
  obtain⟨es,clock,hb,F,hs,qN⟩:=ac;have qu:=fit_apart (string_keyed Tryz.underlying9) F;have h2:(strKeys D).Nodup:=by
   rw[qN];show ((((es.toList.map (Go.WideElems.rg Tryz.prog 9 (plainElem Tryz.prog 4))).foldr DataW.insert [])).map fun p=>strOf p.1).Nodup;have hk:=fit_keys F;refine((sorted_perm _).map _).nodup_iff.2 ?_
   refine List.pairwise_map.2 (qu.imp_of_mem fun {p q} hp' hq' hne e=>hne ?_);obtain⟨v,hv⟩:=hk p hp';obtain⟨v',vO⟩:=hk q hq';obtain⟨x,_,hx,_⟩:=Maps.keyOf_str Tryz.underlying9 hv;obtain⟨y,_,hy,_⟩:=Maps.keyOf_str Tryz.underlying9 vO;rw[hx,hy]at e ⊢;exact congrArg _ e
  exact hp.nodup_iff.2 h2
 refine⟨?_,hm⟩;have hs:=GP ss;have tc:(ss.mergeSort (fun x y=>decide (x<=y))).Nodup:=(List.mergeSort_perm ss _).nodup_iff.2 hnd;exact(hs.and tc).imp fun {a b} ⟨h1,h2⟩=>Eb h1 h2
open Go.RowKit Go.Maps Go.Sort
def S4(ns:List Nd)(env:Env)(id:Int)(l:List Tx)(c:Int):Prop:=
 (¬(0<=id/\id<(ns.length:Int))/\l=[]/\c=1)\/
 (0<=id/\id<(ns.length:Int)/\¬CY ns env id.toNat/\l=[]/\c=8)\/
 (0<=id/\id<(ns.length:Int)/\CY ns env id.toNat/\c=0/\Asc l/\∀t,t∈l↔BO ns env id.toNat t)
def If(ns:List Nd)(env:Env)(id:Int)(w:World)(e:Ending)(w':World):Prop:=∃v l c,e= .returned (.tuple #[v,.int .i64 c])/\BB w' v l/\S4 ns env id l c/\l.length<=1000000/\(∀t∈l,t.length<=400)/\Ext w w'
theorem Et.texts{ns:List Nd}{env:Env}(h:Et ns env)(hf:ns.length<=4096):TxE env:=by
 intro b hb;have h1:=EM (qbu.1 (h.name b hb)).1;have h2:=h.node b hb;refine⟨by omega,?_⟩;have e1:IntKind.i64.min= -9223372036854775808:=by decide
 have e2:IntKind.i64.max=9223372036854775807:=by decide
 simp only[Lit.wf,e1,e2,qaM,decide_eq_true_eq];omega
theorem Et.map{ns:List Nd}{env:Env}(h:Et ns env):Ui env (Cg env):=fun t=>Ov h.asc (fun b hb=>(h.node b hb).1) t
theorem Bi.dep{ns:List Nd}{env:Env}(h:Et ns env){id:Int}(h0:0<=id)(h1:id<(ns.length:Int))(t:Tx):CW ns (Cg env) (Bi ns id) t↔BO ns env id.toNat t:=by
 rw[RT h.map];unfold BO;constructor
 ·exact AO.mono (fun t ht=>ht.2.2)
 ·exact AO.mono (fun t ht=>⟨h0,h1,ht⟩)
theorem BO.memG{ns:List Nd}{env:Env}{i:Nat}{t:Tx}(h:BO ns env i t):t∈Dz ns:=by
 rcases AO.mem h with h|h
 ·exact h.mem
 ·exact h
theorem Qt(B g b:Nat)(w:World)(ns:List Nd)(nv:Value)(h:GrP B g b w ns nv)(v:Value)(env:Env)(he:RdE w v env)(an:Et ns env)(id:Int):
  Calls Tryz.prog 43 #[.pointer (some ⟨g,0,none⟩),v,.int .i64 id] w (If ns env id w):=by
 have HG:=J h;have re:=J he;have bV:=J an;have iO:=J (fun W hx=>JG B g b W ns nv (h.keep (w':=W) hx) id);obtain⟨A,c,rfl⟩:=IZ he;unfold If;clear h he an;by_cases hin:0<=id/\id<(ns.length:Int);rotate_left
 ·rw[decide_eq_false hin]at iO;have HE:=J (fun (w':World) (hx:Ext w w')=>(⟨.slice none 0 0,[],1,rfl,CX.none_ w',.inl ⟨hin,rfl,rfl⟩,by decide,(fun t ht=>by cases ht),hx⟩:∃v l c,Ending.returned (.tuple #[.slice none 0 0,.int .i64 1])= .returned (.tuple #[v,.int .i64 c])/\BB w' v l/\S4 ns env id l c/\l.length<=1000000/\(∀t∈l,t.length<=400)/\Ext w w'));clear hin;go_enter Tryz.func43,Tryz.ntmps43;go_wp2_with fail;refine(iO.o w (Ext.refl w)).mono ?_
  rintro e w1 ⟨rfl,ar⟩;have ah:=J ar;clear ar;go_wp2_with fail;go_ret2;exact HE.o _ ah.o
 ·rw[decide_eq_true hin]at iO;have kK:=J hin;clear hin;go_enter Tryz.func43,Tryz.ntmps43;go_wp2_with fail;refine(iO.o w (Ext.refl w)).mono ?_
  rintro e w1 ⟨rfl,ar⟩;have ah:=J ar;have hfew:=HG.o.few;have aW:=J (EC w1 _ env (re.o.ext ar) (by have:=bV.o.few;omega) (bV.o.texts hfew));clear ar iO;go_wp2_with fail;refine aW.o.mono ?_
  rintro e w2 ⟨bm,rfl,ee,av,al⟩;have am:=J (ah.o.trans al);have aF:=J av;have db:=J (DM B g b w2 ns nv (HG.o.keep am.o) id);unfold Dc at db;clear ee av al aW;go_wp2_with fail;refine db.o.mono ?_
  rintro e w3 ⟨v3,l,rfl,_,eZ,_,ae,lU⟩;have ag:=J (am.o.trans ae);obtain⟨hl2,je⟩:=Bs.texts HG.o.ok eZ;have aC:=J (AP.ext aF.o ae);have mX:=J (Gx B g b w3 ns nv (HG.o.keep ag.o) bm _ _ aC.o _ v3 l lU (by omega) (fun t ht=>by have:=CJ HG.o.ok t (je t ht);omega) (Bi ns id) (Bi.mem eZ));unfold F0 at mX;obtain⟨A3,c3,rfl⟩:=lU.shape;clear eZ ae lU hl2 je db aF;go_wp2_with fail;refine mX.o.mono ?_
  rintro e w4 ⟨sb,c4,rfl,hsb,kU,mR,aJ⟩;have aD:=J (ag.o.trans aJ);have eK:=J (AP.ext aC.o aJ);have yz:=J kU;obtain⟨w5,Wi,j9,oj,hx5,zh⟩:=kU.range;have ba:=J (aD.o.trans hx5);have cm:=J (AP.ext eK.o hx5);have bH:=J oj;have yW:Hid (bm<w4.heap.size):=J (AP.lt eK.o);obtain⟨rb,ke⟩:∃rb,rb=w4.heap.size:=⟨_,rfl⟩;rw[<-ke]at j9 bH yW;have fc:Hid (w.heap.size<=rb):=J (by have:=aD.o.size;omega);have HC4:=J mR;clear hsb kU aJ oj hx5 zh ke mR mX aC;go_wp2_with fail;clear j9;go_loopw [10,11,12] (fun _ _ _ wr=>∃L cnt,RgS wr sb rb c4 (CW ns (Cg env) (Bi ns id)) L cnt/\(∀t,CW ns (Cg env) (Bi ns id) t->L t\/0<=AH env t)/\DR wr bm env.length (Cg env)/\Ext w wr) (fun _ _ _ wr=>wr.rangeLeft sb rb)
  case atStart=>exact⟨_,_,bH.o,fun t ht=> .inl ht,cm.o,ba.o⟩
  case round=>
   clear bH cm ba eK aD yz ag;obtain⟨L,cnt,kc,jx,ee,hx⟩:=hrel;have fm:=J kc.left_eq;rcases kc.next 0 with ⟨h0,hL,bq⟩|⟨t,q,w6,Wh,hL,hS,ak,bq,ka,hlt,hgr,qH⟩
   ·have cP:Hid (CY ns env id.toNat):=J (fun t ht=>(jx t ((Bi.dep bV.o kK.o.1 kK.o.2 t).2 ht)).resolve_left (hL t));obtain⟨D,ac,hD⟩:=kc.smap.set;have hsz:=ac.size_le;have mR:=HC4.o;have gv:=J (fun ss hp=>Tk (ss:=ss) ac hD hp);have gQ:Hid ((strKeys D).length<=1000000):=J (by
     obtain⟨es,rfl,_⟩:=ac.keysOf;simp only[strKeys,qag];simp only[Maps.size]at hsz;omega)
    have HX:=J hx;have WT:=J (fun mb W=>callsIn_wide.1 (Tryz.maps_KeysIt mb W));have ib:=J (callsIn_wide.1 (Tryz.slices_SortedIt sb c4 D _ wr ac (by unfold maxLen;omega) (by omega)));clear ac hD hsz mR kc jx ee hx hL fm;go_wp2_with fail;refine(WT.o _ _).mono ?_
    rintro e w7 ⟨rfl,rfl⟩;go_wp2_with fail;refine ib.o.mono ?_
    rintro e w8 ⟨v8,ss,rfl,hp,au,_,eM⟩;have hl:(ss.mergeSort (fun x y=>decide (x<=y))).length=ss.length:=List.length_mergeSort ss;have HE:=J (And.intro (BB.of_row au hl) (And.intro (gv.o ss hp) (And.intro (show (ss.mergeSort (fun x y=>decide (x<=y))).length<=1000000 by rw[hl,hp.length_eq];exact gQ.o) ((HX.o.alloc _).trans eM))));clear hp au eM hl;go_wp2_with fail;go_ret2;exact⟨v8,_,_,rfl,HE.o.1,.inr (.inr ⟨kK.o.1,kK.o.2,cP.o,rfl,HE.o.2.1.1,fun t=>(HE.o.2.1.2 t).trans (Bi.dep bV.o kK.o.1 kK.o.2 t)⟩),HE.o.2.2.1,fun t ht=>CJ HG.o.ok t (BO.memG ((Bi.dep bV.o kK.o.1 kK.o.2 t).1 ((HE.o.2.1.2 t).1 ht))),HE.o.2.2.2⟩
   ·have hne:rb≠bm:=by have:=yW.o;omega
    have i4:DR w6 bm env.length (Cg env):=AP.at ee (hgr.block bm (AP.lt ee) (fun e=>hne (by injection e with e;exact e.symm)));obtain⟨gG,_⟩:=i4.look t ak;have fw:=bV.o.map t;have aZ:=J (hx.grown hgr (fun k e=>by injection e with e;subst e;exact fc.o));have sd:=J i4;have fW:=J ka;have bD:=J hlt;have pL:=J jx;by_cases hf:0<=AH env t
    ·rw[if_pos hf]at fw;rw[fw]at gG;have W7:Hid (∀s,CW ns (Cg env) (Bi ns id) s->(L s/\s≠t)\/0<=AH env s):=J (fun s hs=>by
      by_cases e:s=t
      ·exact .inr (e ▸ hf)
      ·exact(pL.o s hs).imp (fun h=>⟨h,e⟩) (fun h=>h))
     simp only[qct,Option.isSome_some]at gG;obtain⟨u,hu⟩:∃u:ByteArray,str t= .string u:=⟨_,rfl⟩;rw[hu]at gG bq qH;clear hf fw kc jx ee hx ka hlt hgr i4 hu hL hS hne;go_wp2_with fail;go_roundw
     case rel=>exact⟨_,_,fW.o,W7.o,sd.o,aZ.o⟩
     case measure=>rw[fm.o,fW.o.left_eq];exact bD.o
    ·rw[if_neg hf]at fw;rw[fw]at gG;have aX:Hid (¬CY ns env id.toNat):=J (fun hbd=>hf (hbd t ((Bi.dep bV.o kK.o.1 kK.o.2 t).1 hS)));simp only[qcd,qbY]at gG;obtain⟨u,hu⟩:∃u:ByteArray,str t= .string u:=⟨_,rfl⟩;rw[hu]at gG bq qH;clear hf fw kc jx ee hx ka hlt hgr i4 hu hL hS hne;go_wp2_with fail;go_ret2;exact⟨.slice none 0 0,[],8,rfl,CX.none_ _,.inr (.inl ⟨kK.o.1,kK.o.2,aX.o,rfl,rfl⟩),by decide,(fun t ht=>by cases ht),aZ.o⟩
section
variable {ns:List Nd} {env:Env}
end
theorem ST(env:Env):Eu (env.take 0):=by rw[qaK];simp[Eu,Asc]
theorem Lb{env:Env}(h:0<env.length):Eu (env.take (0+1)):=by
 rw[qah h,qaK];simp[Eu,Asc]
theorem Nr{env:Env}{p:Nat}(h:p+1<env.length)(ha:Eu (env.take (p+1)))(hlt:env[p].1<env[p+1].1):Eu (env.take (p+1+1)):=by
 rw[qah h];unfold Eu Asc at *;rw[qaB,List.pairwise_append];refine⟨ha,by simp,fun a hm b hb=> ?_⟩;rw[qbU,qcl,qav]at hb;subst hb;have hp:p<env.length:=by omega
 rw[qah hp,qaB,List.pairwise_append]at ha;rw[qah hp,qaB]at hm;rcases qax.1 hm with hm|hm
 ·exact I0 (ha.2.2 a hm _ (by simp)) hlt
 ·rw[qbU,qcl,qav]at hm;subst hm;exact hlt
theorem TK{env:Env}{p:Nat}(h:p+1<env.length)(hn:¬env[p].1<env[p+1].1):¬Eu env:=by
 intro ha;unfold Eu Asc at ha;rw[qcr]at ha;have:=ha p (p+1) (by rw[qag];omega) (by rw[qag];omega) (by omega);rw[List.getElem_map,List.getElem_map]at this;exact hn this
def Fu(ns:List Nd)(env:Env)(k:Nat):Prop:=(∀b∈env.take k,CQ b.1=true/\0<=b.2/\b.2<(ns.length:Int))/\Eu (env.take k)
theorem Fu.start(ns:List Nd)(env:Env):Fu ns env 0:=⟨(fun b hb=>by rw[qaK]at hb;cases hb),ST env⟩
theorem Fu.step{ns:List Nd}{env:Env}{k:Nat}(h:Fu ns env k)(hk:k<env.length)(hn:CQ env[k].1=true)(hd:0<=env[k].2/\env[k].2<(ns.length:Int))(ha:Eu (env.take (k+1))):Fu ns env (k+1):=by
 refine⟨fun b hb=> ?_,ha⟩;rw[qah hk]at hb;rcases qax.1 hb with hb|hb
 ·exact h.1 b hb
 ·rw[qav]at hb;subst hb;exact⟨hn,hd⟩
theorem Fu.ok{ns:List Nd}{env:Env}{k:Nat}(h:Fu ns env k)(hk:env.length<=k)(hf:env.length<=64):Et ns env:=by
 unfold Fu at h;rw[qak hk]at h;exact⟨hf,fun b hb=>(h.1 b hb).1,fun b hb=>(h.1 b hb).2,h.2⟩
theorem PB{ns:List Nd}{env:Env}(h:¬env.length<=64):¬Bv ns env:=fun he=>h he.ok.few
theorem No{ns:List Nd}{env:Env}{k:Nat}(hk:k<env.length)(h:CQ env[k].1=false):¬Bv ns env:=fun he=>by
 rw[he.ok.name _ (qap hk)]at h;cases h
theorem Nn{ns:List Nd}{env:Env}{k:Nat}(hk:k<env.length)(h:¬(0<=env[k].2/\env[k].2<(ns.length:Int))):¬Bv ns env:=fun he=>h (he.ok.node _ (qap hk))
theorem PC{ns:List Nd}{env:Env}{p:Nat}(h:p+1<env.length)(hn:¬env[p].1<env[p+1].1):¬Bv ns env:=fun he=>TK h hn he.ok.asc
def Fv(ns:List Nd)(env:Env)(k:Nat):Prop:=∀b∈env.take k,CY ns env b.2.toNat/\¬BO ns env b.2.toNat b.1
theorem Fv.start(ns:List Nd)(env:Env):Fv ns env 0:=fun b hb=>by rw[qaK]at hb;cases hb
theorem Fv.step{ns:List Nd}{env:Env}{k:Nat}(h:Fv ns env k)(hk:k<env.length)(h1:CY ns env env[k].2.toNat)(h2:¬BO ns env env[k].2.toNat env[k].1):Fv ns env (k+1):=by
 intro b hb;rw[qah hk]at hb;rcases qax.1 hb with hb|hb
 ·exact h b hb
 ·rw[qav]at hb;subst hb;exact⟨h1,h2⟩
theorem Fv.good{ns:List Nd}{env:Env}{k:Nat}(h:Fv ns env k)(hk:env.length<=k)(ho:Et ns env):Bv ns env:=by
 unfold Fv at h;rw[qak hk]at h;exact⟨ho,fun b hb=>(h b hb).1,fun b hb=>(h b hb).2⟩
end Big
end Go.Proofs.YtkoaogkknnelaaaGreatDoor
