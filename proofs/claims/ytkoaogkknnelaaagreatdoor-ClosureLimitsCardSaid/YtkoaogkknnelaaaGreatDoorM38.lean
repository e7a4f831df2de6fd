import Derived.Test.YtkoaogkknnelaaaGreatDoorShelf7
import Derived.Test.YtkoaogkknnelaaaGreatDoorM37
set_option linter.unusedVariables false
set_option linter.unusedSimpArgs false
set_option maxHeartbeats 4000000
set_option maxRecDepth 100000
namespace Go.Proofs.YtkoaogkknnelaaaGreatDoor
namespace Big
open Lib renaming hid → J
def T2(first:Nat)(x:Nd):Nd:=⟨x.kind,if 5<=x.kind then x.a+first else x.a,if 6<=x.kind/\x.kind<=9 then x.b+first else x.b,x.n,x.text⟩
def stepR(f:Tx->Ex)(s:List Nat × List Nd)(x:Nd):List Nat × List Nd:=
 if x.kind=2 then (s.1++[s.2.length+(f x.text).size-1],s.2++Ag s.2.length (f x.text))
 else (s.1++[s.2.length],s.2++[⟨x.kind,if 5<=x.kind then ((s.1.getD x.a.toNat 0:Nat):Int) else x.a,if 6<=x.kind/\x.kind<=9 then ((s.1.getD x.b.toNat 0:Nat):Int) else x.b,x.n,x.text⟩])
def T3(f:Tx->Ex)(s:List Nat × List Nd)(l:List Nd):List Nat × List Nd:=l.foldl (stepR f) s
open Go.RowKit Go.Maps Go.Sort
theorem Kf(B:Nat)(w:World)(v:Value)(ls:List Tx)(h:BK B w v ls)(hl:ls.length<=1000000)(t:Tx):
  Calls Tryz.prog 110 #[v,str t] w fun e w'=>e= .returned (.bool (decide (t∈ls)))/\w'=w:=by
 rcases h.cells with ⟨rfl,rfl⟩|⟨g,c,rfl,_,hc⟩
 ·refine(Tryz.slices_Contains_string_empty none 0 ⟨t.toArray⟩ w).mono ?_
  rintro e w' ⟨rfl,rfl⟩;exact⟨by simp,rfl⟩
 ·refine(Tryz.slices_Contains_string g 0 ls.length c (ls.map fun x=>(⟨x.toArray⟩:ByteArray)) ⟨t.toArray⟩ w (by rw[List.length_map];exact Nat.le_refl _) (by omega) (fun j hj=> ?_)).mono ?_
  ·rw[List.length_map]at hj;rw[Nat.zero_add,hc j (str ls[j]) (by rw[List.getElem?_map,List.getElem?_eq_getElem hj];rfl),List.getD_eq_getElem?_getD,List.getElem?_map,List.getElem?_eq_getElem hj];rfl
  ·rintro e w' ⟨rfl,rfl⟩;refine⟨?_,rfl⟩
   congr 2
   rw[List.take_of_length_le (by rw[List.length_map];exact Nat.le_refl _),Bool.eq_iff_iff,Lib.containsS_iff,decide_eq_true_iff,List.mem_map];constructor
   ·rintro⟨x,hx,e⟩;have e2:x=t:=by
     injection e with e
     exact List.toArray_inj e
    exact e2 ▸ hx
   ·intro h;exact⟨t,h,rfl⟩
noncomputable def CW(ns:List Nd)(env:Env)(t:Tx):List Tx:=(env.filter fun b=> @decide (AX ns b.2 t) (Classical.propDecidable _)).map (·.1)
theorem Gz(ns:List Nd)(env:Env)(t:Tx):(CW ns env t).length<=env.length:=by
 unfold CW;rw[List.length_map];exact List.length_filter_le _ _
theorem Ij{ns:List Nd}{env:Env}{t:Tx}{k:Nat}(hk:k<env.length){l:List Tx}(hl:AQ ns env[k].2 l):CW ns (env.take (k+1)) t=CW ns (env.take k) t++if decide (t∈l)=true then [env[k].1] else []:=by
 unfold CW;rw[List.take_succ_eq_append_getElem hk,List.filter_append,List.map_append]
 congr 1
 have hm:=AX.mem hl t;by_cases h:t∈l
 ·rw[if_pos (decide_eq_true h),List.filter_cons_of_pos (p:=fun b:Tx × Int=> @decide (AX ns b.2 t) (Classical.propDecidable _)) (@decide_eq_true _ (Classical.propDecidable _) (hm.2 h))];rfl
 ·rw[if_neg (by simp[h]),List.filter_cons_of_neg (p:=fun b:Tx × Int=> @decide (AX ns b.2 t) (Classical.propDecidable _)) (fun e=>h (hm.1 (@of_decide_eq_true _ (Classical.propDecidable _) e)))];rfl
theorem Kv(B g b:Nat)(w:World)(ns:List Nd)(nv:Value)(h:GrP B g b w ns nv)(v:Value)(env:Env)(he:RdE w v env)(hn:env.length<=100000)(t:Tx):
  Calls Tryz.prog 46 #[.pointer (some ⟨g,0,none⟩),v,str t] w fun e w'=>∃v',e= .returned v'/\BP w.heap.size w' v' (CW ns env t)/\Ext w w':=by
 have HG:=J h;have bG:=J (fun W (hx:Ext w W) (z:Int)=>Dl B g b W ns nv (HG.o.keep hx) z);unfold CF at bG;have oP:=J (fun W B v l h hl=>Kf B W v l h hl t);obtain⟨A,c,rfl,aB⟩:=he;have bH:=J aB;obtain⟨n,bh⟩:∃n,n=env.length:=⟨_,rfl⟩;have HN:=J bh;rw[<-bh]at hn ⊢;obtain⟨u,hu⟩:∃u:ByteArray,str t= .string u:=⟨_,rfl⟩;rw[hu]at oP ⊢;obtain⟨U,hU⟩:∃U,CW ns env t=U:=⟨_,rfl⟩;have HU:=J hU;rw[hU];have sG:=J (fun k=>Gz ns (env.take k) t);clear h aB bh hu hU;go_enter Tryz.func46,Tryz.ntmps46;go_wp2_with fail;go_loopw [7,12] (fun s7 s12 wr=>∃k:Nat,k<=n/\s12= .int .i64 (k:Int)/\BP w.heap.size wr s7 (CW ns (env.take k) t)/\Ext w wr) (fun _ s12 _=>n-(intOf s12).toNat)
 case atStart=>exact⟨0,Nat.zero_le _,rfl,by rw[List.take_zero];exact BP.none_ _ _,Ext.refl w⟩
 case round=>
  obtain⟨k,hk,rfl,ho,hx⟩:=hrel;have HO:=J ho;have HX:=J hx;have kv:=sG.o k;rw[List.length_take]at kv;by_cases hlt:k<n
  ·have bB:k<env.length:=by rw[<-HN.o];exact hlt
   obtain⟨gb,o,rfl,bO,hc⟩:=bH.o (by omega);obtain⟨p0,p1⟩:=hc k bB;rw[<-hx.cell bO]at p0 p1;have fy:(0:Int)<=(k:Int):=by omega
   have lD:(k:Int)<(n:Int):=by omega
   have iW:IntKind.i64.wrap ((k:Int)+1)=(k:Int)+1:=IntWalk.i64_in _ (by omega);have cA:=J (fun l hl=>Ij (ns:=ns) (t:=t) bB (l:=l) hl);obtain⟨m3,A3,c3,rfl⟩:=ho.arr.shape;clear hc ho hx;generalize CW ns (env.take k) t=us at *;generalize env[k]=y at *;obtain⟨t',z⟩:=y;simp only at p0 p1 cA;obtain⟨s,hs⟩:∃s:ByteArray,str t'= .string s:=⟨_,rfl⟩;rw[hs]at p0;have aF:=J hs;clear hs bB;go_upto_region 5 with fail;have dx:=Blk.new wr 62 #[.string s,.int .i64 z];have bq:=(Ext.refl wr).alloc (.cells #[.string s,.int .i64 z] 62);generalize wr.alloc (.cells #[.string s,.int .i64 z] 62)=w7 at *;generalize wr.heap.size=nb at *;obtain⟨q0,q1⟩:=dx.twoB;have ay:=J (HX.o.trans bq);have eP:=J (HO.o.ext bq);have bX:=J dx;clear dx bq p0 p1;go_wp2_with fail;refine(bG.o w7 ay.o z).mono ?_
   rintro e w8 ⟨v8,l8,rfl,_,nB,dI,bI,rO⟩;have bV:=J (ay.o.trans bI);have my:=J (eP.o.ext bI);have fP:=J (bX.o.ext bI);have HT:=J (cA.o l8 nB);have q9:=J (oP.o w8 _ v8 l8 rO dI);obtain⟨A8,c8,rfl⟩:=rO.shape;clear q0 q1 bI rO nB dI cA bG oP;obtain⟨d,hd⟩:∃d,decide (t∈l8)=d:=⟨_,rfl⟩;rw[hd]at q9 HT;clear hd;go_wp2_with fail;refine q9.o.mono ?_
   rintro e w9 ⟨rfl,rfl⟩;obtain⟨q0,q1⟩:=fP.o.twoB;cases d
   ·go_wp2_with fail;go_roundw
    case rel=>exact⟨k+1,by omega,by go_num,by rw[HT.o];simpa using my.o,bV.o⟩
    case measure=>simp[intOf];omega
   ·have xN:w.heap.size<=w9.heap.size:=bV.o.size;have ke:Hid (Bl (w9.alloc (.cells #[.string s] 9)) (.slice (some ⟨w9.heap.size,0,none⟩) 1 1) [t']):=J (by rw[<-aF.o];exact Bl.fresh1 w9 t');have lR:Hid (us.length+[t'].length<=2147483648):=J (by rw[List.length_singleton];omega);go_wp2_with (at_builtin;go_must (refine Cu (B:=w.heap.size) rfl _ _ rfl rfl (my.o.ext ((Ext.refl _).alloc _)) rfl ke.o lR.o (by simp;omega) ?_;intro v' w' aA al aX));have HE:=J (And.intro aA ((bV.o.alloc _).more aX));clear aA al aX;go_roundw
    case rel=>exact⟨k+1,by omega,by go_num,by rw[HT.o];exact HE.o.1,HE.o.2⟩
    case measure=>simp[intOf];omega
  ·obtain rfl:k=n:=by omega
   have HE:Hid (BP w.heap.size wr u7 U/\Ext w wr):=J (by
    have h:=HO.o;rw[show env.take k=env from List.take_of_length_le (by rw[<-HN.o];exact Nat.le_refl _),HU.o]at h;exact⟨h,HX.o⟩)
   obtain⟨m3,A3,c3,rfl⟩:=ho.arr.shape;clear ho hx;go_wp2_with fail;go_ret;exact⟨_,rfl,HE.o.1,HE.o.2⟩
theorem NB(B g:Nat)(w:World)(ns:List Nd)(rv:Value)(h:GrR B g w ns rv)(v:Value)(env:Env)(he:RdE w v env)(hn:env.length<=100000)(t:Tx):
  Calls Tryz.prog 47 #[.pointer (some ⟨g,0,none⟩),v,str t] w fun e w'=>∃v',e= .returned v'/\BP w.heap.size w' v' (CW ns env t)/\Ext w w':=by
 have HG:=J h;have bG:=J (fun W (hx:Ext w W) (z:Int)=>Cv B g W ns rv (HG.o.keep hx) z);unfold CQ at bG;have oP:=J (fun W v l h hl=>Hw W v l h hl t);obtain⟨A,c,rfl,aB⟩:=he;have bH:=J aB;obtain⟨n,bh⟩:∃n,n=env.length:=⟨_,rfl⟩;have HN:=J bh;rw[<-bh]at hn ⊢;obtain⟨u,hu⟩:∃u:ByteArray,str t= .string u:=⟨_,rfl⟩;rw[hu]at oP ⊢;obtain⟨U,hU⟩:∃U,CW ns env t=U:=⟨_,rfl⟩;have HU:=J hU;rw[hU];have sG:=J (fun k=>Gz ns (env.take k) t);clear h aB bh hu hU;go_enter Tryz.func47,Tryz.ntmps47;go_wp2_with fail;go_loopw [7,12] (fun s7 s12 wr=>∃k:Nat,k<=n/\s12= .int .i64 (k:Int)/\BP w.heap.size wr s7 (CW ns (env.take k) t)/\Ext w wr) (fun _ s12 _=>n-(intOf s12).toNat)
 case atStart=>exact⟨0,Nat.zero_le _,rfl,by rw[List.take_zero];exact BP.none_ _ _,Ext.refl w⟩
 case round=>
  obtain⟨k,hk,rfl,ho,hx⟩:=hrel;have HO:=J ho;have HX:=J hx;have kv:=sG.o k;rw[List.length_take]at kv;by_cases hlt:k<n
  ·have bB:k<env.length:=by rw[<-HN.o];exact hlt
   obtain⟨gb,o,rfl,bO,hc⟩:=bH.o (by omega);obtain⟨p0,p1⟩:=hc k bB;rw[<-hx.cell bO]at p0 p1;have fy:(0:Int)<=(k:Int):=by omega
   have lD:(k:Int)<(n:Int):=by omega
   have iW:IntKind.i64.wrap ((k:Int)+1)=(k:Int)+1:=IntWalk.i64_in _ (by omega);have cA:=J (fun l hl=>Ij (ns:=ns) (t:=t) bB (l:=l) hl);obtain⟨m3,A3,c3,rfl⟩:=ho.arr.shape;clear hc ho hx;generalize CW ns (env.take k) t=us at *;generalize env[k]=y at *;obtain⟨t',z⟩:=y;simp only at p0 p1 cA;obtain⟨s,hs⟩:∃s:ByteArray,str t'= .string s:=⟨_,rfl⟩;rw[hs]at p0;have aF:=J hs;clear hs bB;go_upto_region 5 with fail;have dx:=Blk.new wr 62 #[.string s,.int .i64 z];have bq:=(Ext.refl wr).alloc (.cells #[.string s,.int .i64 z] 62);generalize wr.alloc (.cells #[.string s,.int .i64 z] 62)=w7 at *;generalize wr.heap.size=nb at *;obtain⟨q0,q1⟩:=dx.twoB;have ay:=J (HX.o.trans bq);have eP:=J (HO.o.ext bq);have bX:=J dx;clear dx bq p0 p1;go_wp2_with fail;refine(bG.o w7 ay.o z).mono ?_
   rintro e w8 ⟨v8,l8,rfl,om,nB,dI,bI⟩;have bV:=J (ay.o.trans bI);have my:=J (eP.o.ext bI);have fP:=J (bX.o.ext bI);have HT:=J (cA.o l8 nB);have q9:=J (oP.o w8 v8 l8 om dI);obtain⟨m8,A8,c8,rfl⟩:=om.shape;clear q0 q1 bI om nB dI cA bG oP;obtain⟨d,hd⟩:∃d,decide (t∈l8)=d:=⟨_,rfl⟩;rw[hd]at q9 HT;clear hd;go_wp2_with fail;refine q9.o.mono ?_
   rintro e w9 ⟨rfl,rfl⟩;obtain⟨q0,q1⟩:=fP.o.twoB;cases d
   ·go_wp2_with fail;go_roundw
    case rel=>exact⟨k+1,by omega,by go_num,by rw[HT.o];simpa using my.o,bV.o⟩
    case measure=>simp[intOf];omega
   ·have xN:w.heap.size<=w8.heap.size:=bV.o.size;have ke:Hid (Bl (w8.alloc (.cells #[.string s] 9)) (.slice (some ⟨w8.heap.size,0,none⟩) 1 1) [t']):=J (by rw[<-aF.o];exact Bl.fresh1 w8 t');have lR:Hid (us.length+[t'].length<=2147483648):=J (by rw[List.length_singleton];omega);go_wp2_with (at_builtin;go_must (refine Cu (B:=w.heap.size) rfl _ _ rfl rfl (my.o.ext ((Ext.refl _).alloc _)) rfl ke.o lR.o (by simp;omega) ?_;intro v' w' aA al aX));have HE:=J (And.intro aA ((bV.o.alloc _).more aX));clear aA al aX;go_roundw
    case rel=>exact⟨k+1,by omega,by go_num,by rw[HT.o];exact HE.o.1,HE.o.2⟩
    case measure=>simp[intOf];omega
  ·obtain rfl:k=n:=by omega
   have HE:Hid (BP w.heap.size wr u7 U/\Ext w wr):=J (by
    have h:=HO.o;rw[show env.take k=env from List.take_of_length_le (by rw[<-HN.o];exact Nat.le_refl _),HU.o]at h;exact⟨h,HX.o⟩)
   obtain⟨m3,A3,c3,rfl⟩:=ho.arr.shape;clear ho hx;go_wp2_with fail;go_ret;exact⟨_,rfl,HE.o.1,HE.o.2⟩
theorem Ml(B g:Nat)(w:World)(ns:List Nd)(rv:Value)(h:GrR B g w ns rv)(v:Value)(env:Env)(he:RdE w v env)(hn:env.length<=10000)(t:Tx)(id:Int):
  Calls Tryz.prog 49 #[.pointer (some ⟨g,0,none⟩),v,str t,.int .i64 id] w fun e w'=>∃d:Bool,e= .returned (.bool d)/\(d=true↔AA ns (env.filter fun b=>decide (b.1≠t)) (AX ns id) t)/\Ext w w':=by
 have HG:=J h;have bG:=J (fun W (hx:Ext w W)=>Cv B g W ns rv (HG.o.keep hx) id);unfold CQ at bG;have fc:=J (fun W v ls (ha:Bl W v ls) hl=>Hw W v ls ha hl t);obtain⟨A,c,rfl,aB⟩:=he;have bH:=J aB;obtain⟨n,bh⟩:∃n,n=env.length:=⟨_,rfl⟩;have HN:=J bh;rw[<-bh]at hn ⊢;obtain⟨u,hu⟩:∃u:ByteArray,str t= .string u:=⟨_,rfl⟩;have HU:=J hu;rw[hu]at fc ⊢;have iz:Hid (∀k,((env.take k).filter fun b=>decide (b.1≠t)).length<=n):=J (fun k=>by
  have h1:=List.length_filter_le (fun b:Tx × Int=>decide (b.1≠t)) (env.take k);rw[List.length_take]at h1;omega)
 clear h aB bh hu;go_enter Tryz.func49,Tryz.ntmps49;go_wp2_with fail;go_loopw [9,14] (fun s9 s14 wr=>∃k:Nat,k<=n/\s14= .int .i64 (k:Int)/\AG w.heap.size wr s9 ((env.take k).filter fun b=>decide (b.1≠t))/\Ext w wr) (fun _ s14 _=>n-(intOf s14).toNat)
 case atStart=>exact⟨0,Nat.zero_le _,rfl,by rw[List.take_zero];exact AG.nil _ _,Ext.refl w⟩
 case round=>
  obtain⟨k,hk,rfl,ho,hx⟩:=hrel;have HO:=J ho;have HX:=J hx;by_cases hlt:k<n
  ·have bB:k<env.length:=by rw[<-HN.o];exact hlt
   obtain⟨gb,o,rfl,bO,hc⟩:=bH.o (by omega);obtain⟨p0,p1⟩:=hc k bB;rw[<-hx.cell bO]at p0 p1;have fy:(0:Int)<=(k:Int):=by omega
   have lD:(k:Int)<(n:Int):=by omega
   have iW:IntKind.i64.wrap ((k:Int)+1)=(k:Int)+1:=IntWalk.i64_in _ (by omega);have cA:Hid ((env.take (k+1)).filter (fun b=>decide (b.1≠t))=(env.take k).filter (fun b=>decide (b.1≠t))++if decide (env[k].1≠t)=true then [env[k]] else []):=J (by
    rw[List.take_succ_eq_append_getElem bB,List.filter_append]
    congr 1
    by_cases e:env[k].1=t<;>simp[e])
   obtain⟨A9,c9,rfl⟩:=ho.shape;have kS:=iz.o k;clear hc ho hx;generalize (env.take k).filter (fun b=>decide (b.1≠t))=us at *;generalize env[k]=y at *;obtain⟨t',z⟩:=y;simp only at p0 p1 cA;obtain⟨s,hs⟩:∃s:ByteArray,str t'= .string s:=⟨_,rfl⟩;rw[hs]at p0;have ks:=I7 hs HU.o;have aF:=J hs;clear hs bB;go_upto_region 5 with fail;have dx:=Blk.new wr 62 #[.string s,.int .i64 z];have bq:=(Ext.refl wr).alloc (.cells #[.string s,.int .i64 z] 62);generalize wr.alloc (.cells #[.string s,.int .i64 z] 62)=w7 at *;generalize wr.heap.size=nb at *;obtain⟨q0,q1⟩:=dx.twoB;have ay:=J (HX.o.trans bq);have eP:=J (HO.o.ext bq);clear dx bq p0 p1;by_cases hte:t'=t
   ·have hne:(s.toList != u.toList)=false:=by rw[bne,ks,decide_eq_true hte];rfl
    rw[decide_eq_true hte]at ks;have eM:=J cA.o;rw[if_neg (by simp[hte]),List.append_nil]at eM;clear hte cA;go_wp2_with fail;go_roundw
    case rel=>exact⟨k+1,by omega,by go_num,by rw[eM.o];exact eP.o,ay.o⟩
    case measure=>simp[intOf];omega
   ·have hne:(s.toList != u.toList)=true:=by rw[bne,ks,decide_eq_false hte];rfl
    rw[decide_eq_false hte]at ks;have eM:=J cA.o;rw[if_pos (by simp[hte])]at eM;have xN:w.heap.size<=w7.heap.size:=ay.o.size;have bC:Hid (∀j q,(Dn [(t',z)])[j]? =some q->(w7.alloc (.cells #[.string s,.int .i64 z] 62)).cell? ((⟨w7.heap.size,0,none⟩:Addr).add j)=some q):=J (by
     rw[EA];unfold bdC;rw[aF.o];exact Bw w7 62 [.string s,.int .i64 z])
    clear hte cA;go_wp2_with (at_builtin;go_must (refine BO (B:=w.heap.size) (xs:=us) (ys:=[(t',z)]) rfl _ _ rfl rfl (eP.o.ext ((Ext.refl _).alloc _)) ⟨w7.heap.size,0,none⟩ 1 rfl bC.o (by simp only[List.length_singleton];omega) (by simp;omega) ?_;intro v' w' aA al aX));have HE:=J (And.intro aA ((ay.o.alloc _).more aX));clear aA al aX;go_roundw
    case rel=>exact⟨k+1,by omega,by go_num,by rw[eM.o];exact HE.o.1,HE.o.2⟩
    case measure=>simp[intOf];omega
  ·obtain rfl:k=n:=by omega
   have W7:Hid (RdE wr u9 (env.filter fun b=>decide (b.1≠t))):=J (by
    have h:=HO.o.read;rw[show env.take k=env from List.take_of_length_le (by rw[<-HN.o];exact Nat.le_refl _)]at h;exact h)
   have W8:Hid ((env.filter fun b=>decide (b.1≠t)).length<=100000):=J (by
    have h1:=List.length_filter_le (fun b:Tx × Int=>decide (b.1≠t)) env;rw[<-HN.o]at h1;omega)
   obtain⟨other,kN⟩:∃other,(env.filter fun b=>decide (b.1≠t))=other:=⟨_,rfl⟩;have lN:=J kN;rw[kN]at W7 W8;clear kN;obtain⟨A9,c9,VL⟩:=ho.shape;generalize ((env.take k).filter fun b=>decide (b.1≠t)).length=n9 at VL;subst VL;have cW:=J (bG.o wr HX.o);clear ho hx iz bG;go_wp2_with fail;refine cW.o.mono ?_
   rintro e w3 ⟨v3,l,rfl,jV,eu,_,ae⟩;obtain⟨hl2,fS⟩:=AQ.texts HG.o.ok eu;have hfew:=HG.o.few;have lM:=J (Hx B g w3 ns rv (HG.o.keep (HX.o.trans ae)) _ other (W7.o.ext ae) W8.o v3 l jV (by omega) (AX ns id) (AX.mem eu) (CA ns) fS (fun t ht=>ht) (by unfold CA;rw[List.length_map];omega) (fun t ht=>by have:=BM HG.o.ok t ht;omega));unfold E8 at lM;have aj:=J (HX.o.trans ae);obtain⟨m3,A3,c3,rfl⟩:=jV.shape;clear eu ae jV hl2 fS cW;go_wp2_with fail;refine lM.o.mono ?_
   rintro e w4 ⟨v4,L,rfl,eR,mn,d7,tU,tO,aR⟩;have aE:=J (aj.o.trans aR);have Xc:=J (fc.o w4 v4 L eR.arr (by omega));have Z4:=J (d7 t);obtain⟨A4,c4,rfl⟩:=GK eR;clear aR eR mn d7 tU tO lM fc;obtain⟨d,hd⟩:∃d,decide (t∈L)=d:=⟨_,rfl⟩;have HD:=J hd;rw[hd]at Xc;clear hd;go_wp2_with fail;refine Xc.o.mono ?_
   rintro e w5 ⟨rfl,rfl⟩;go_wp2_with fail;go_ret;refine⟨d,rfl,?_,aE.o⟩;rw[<-HD.o,decide_eq_true_iff,lN.o];exact Z4.o
def Uc:Tx:=[120]
def Ub:Tx:=[121]
def Ow:Ex:= .leaf 1 [49]
def Ov:Ex:= .bin 6 (.leaf 2 [120]) (.leaf 2 [120])
def Ou:Ex:= .bin 8 (.leaf 2 [121]) (.leaf 2 [121])
def Ot:Ex:= .bin 8 (.bin 6 (.leaf 1 [49]) (.leaf 1 [49])) (.bin 6 (.leaf 1 [49]) (.leaf 1 [49]))
def P7:List Nd:=[⟨1,0,0,0,[49]⟩]
def P6:List Nd:=[⟨1,0,0,0,[49]⟩,⟨2,0,0,0,[120]⟩,⟨6,1,1,0,[]⟩]
def P5:List Nd:=[⟨1,0,0,0,[49]⟩,⟨2,0,0,0,[120]⟩,⟨6,1,1,0,[]⟩,⟨2,0,0,0,[121]⟩,⟨8,3,3,0,[]⟩]
def C9:List Nd:=[⟨1,0,0,0,[49]⟩,⟨2,0,0,0,[120]⟩,⟨6,1,1,0,[]⟩,⟨2,0,0,0,[121]⟩,⟨8,3,3,0,[]⟩,⟨6,0,0,0,[]⟩,⟨8,5,5,0,[]⟩]
def Dv:Env:=[([120],0),([121],2)]
theorem Tl:DJ [49]=(some Ow,1,0):=by kernel_rfl
theorem Tk:DJ [120,32,43,32,120]=(some Ov,5,0):=by kernel_rfl
theorem Tj:DJ [121,32,42,32,121]=(some Ou,5,0):=by kernel_rfl
theorem Ti:DJ [40,49,32,43,32,49,41,32,42,32,40,49,32,43,32,49,41]=(some Ot,17,0):=by kernel_rfl
theorem Ty:Ai [] Ow=(0,P7):=by decide
theorem Tw:Ai P7 Ov=(2,P6):=by decide
theorem Tv:Ai P6 Ou=(4,P5):=by decide
theorem Tu:Ai P5 Ot=(6,C9):=by decide
theorem Gd:Ow.Good:= .inl ⟨rfl,by kernel_rfl,by decide⟩
theorem O4:Ov.Good:=⟨⟨by decide,by decide⟩,.inr (.inl ⟨rfl,by decide⟩),.inr (.inl ⟨rfl,by decide⟩)⟩
theorem O3:Ou.Good:=⟨⟨by decide,by decide⟩,.inr (.inl ⟨rfl,by decide⟩),.inr (.inl ⟨rfl,by decide⟩)⟩
theorem SR:Ot.Good:=⟨⟨by decide,by decide⟩,⟨⟨by decide,by decide⟩,Gd,Gd⟩,⟨⟨by decide,by decide⟩,Gd,Gd⟩⟩
theorem Ga(t:Tx):¬AB C9 0 t:=fun h=>by
 have:=(DL (e:=Ow) Gd (show Rep C9 0 Ow from rfl)).1 h;simp[Cr,Ow]at this
theorem F9(t:Tx):AB C9 2 t↔t=[120]:=by
 rw[DL (e:=Ov) O4 (show Rep C9 2 Ov from ⟨1,1,rfl,rfl,rfl⟩)];simp[Cr,Ov]
theorem P4(t:Tx):AB C9 4 t↔t=[121]:=by
 rw[DL (e:=Ou) O3 (show Rep C9 4 Ou from ⟨3,3,rfl,rfl,rfl⟩)];simp[Cr,Ou]
theorem Pa(t:Tx):¬B2 C9 Dv 0 t:=fun h=>AA.inside (S:=fun _=>False) (fun t ht=>Ga t ht) (fun _ _ h=>h.elim) h
theorem O9{t:Tx}(h:B2 C9 Dv 2 t):t=[120]:=AA.inside (S:=fun t=>t=[120]) (fun t ht=>(F9 t).1 ht) (fun t s h _ hn=>by
 subst h;exact absurd hn (Ga s)) h
theorem SX{t:Tx}(h:B2 C9 Dv 4 t):t=[120]\/t=[121]:=AA.inside (S:=fun t=>t=[120]\/t=[121]) (fun t ht=> .inr ((P4 t).1 ht)) (fun t s h _ hn=>by
 rcases h with rfl|rfl
 ·exact absurd hn (Ga s)
 ·exact .inl ((F9 s).1 hn)) h
theorem K8:AO C9 Dv:=by
 refine⟨⟨by decide,?_,?_,?_⟩,?_,?_⟩
 ·intro b hb;rcases List.mem_cons.1 hb with rfl|hb
  ·decide
  ·rcases List.mem_cons.1 hb with rfl|hb
   ·decide
   ·cases hb
 ·intro b hb;rcases List.mem_cons.1 hb with rfl|hb
  ·decide
  ·rcases List.mem_cons.1 hb with rfl|hb
   ·decide
   ·cases hb
 ·unfold DB Asc;decide
 ·intro b hb;rcases List.mem_cons.1 hb with rfl|hb
  ·exact fun t ht=>absurd ht (Pa t)
  ·rcases List.mem_cons.1 hb with rfl|hb
   ·intro t ht;rw[O9 ht];decide
   ·cases hb
 ·intro b hb;rcases List.mem_cons.1 hb with rfl|hb
  ·exact Pa _
  ·rcases List.mem_cons.1 hb with rfl|hb
   ·intro h;exact absurd (O9 h) (by decide)
   ·cases hb
theorem Oe:ES 1 [49]:= .inl ⟨rfl,by kernel_rfl,by decide⟩
theorem TM:AM C9 Dv 4 Ot:=
 have h0:AM C9 Dv 0 (.leaf 1 [49]):= .leaf rfl (by decide) Oe;have h1:AM C9 Dv 1 (.leaf 1 [49]):= .name (n:=0) rfl rfl h0;have h2:AM C9 Dv 2 (.bin 6 (.leaf 1 [49]) (.leaf 1 [49])):= .bin rfl (by decide) h1 h1;have h3:AM C9 Dv 3 (.bin 6 (.leaf 1 [49]) (.leaf 1 [49])):= .name (n:=2) rfl rfl h2
 .bin rfl (by decide) h3 h3
theorem Tt:Ai C9 Ot=(6,C9):=by decide
theorem RW:ED C9 Dv 4 6 0 C9:=by
 refine .inr (.inr ⟨by decide,by decide,fun t ht=> ?_,Ot,TM,.inl ?_⟩)
 ·rcases SX ht with rfl|rfl<;>decide
 ·rw[Tt];exact⟨by decide,rfl,rfl,rfl⟩
theorem TL:C0 C9 (fun x=>if x=[120] then none else BW Dv x) (AX C9 2) [120]:= .here ⟨by decide,by decide,(F9 _).2 rfl⟩
theorem Sq:CW C9 Dv [120]=[[121]]:=by
 unfold CW;have h0:¬AX C9 0 [120]:=fun h=>Ga _ h.2.2
 have h2:AX C9 2 [120]:=⟨by decide,by decide,(F9 _).2 rfl⟩;simp[Dv,h0,h2]
theorem TE:TxE Dv:=by
 intro b hb;rcases List.mem_cons.1 hb with rfl|hb
 ·exact⟨by decide,by decide⟩
 ·rcases List.mem_cons.1 hb with rfl|hb
  ·exact⟨by decide,by decide⟩
  ·cases hb
open Go.RowKit
theorem Ip(w:World)(v u:Value)(ls ms:List (List UInt8))(h:Bl w v ls)(h':Bl w u ms)(hn:ls.length<=1073741824)(ck:ms.length<=1073741824):
  Calls Tryz.prog 45 #[v,u] w fun e w'=>e= .returned (.bool (decide (ls=ms)))/\Ext w w':=by
 obtain⟨A,c,rfl,hc,hm,ac⟩:=h.open;obtain⟨A',c',rfl,hc',pF,bw⟩:=h'.open;have HC:=J ac;have HC':=J bw;clear ac bw hm pF hc hc' h h';by_cases hl:ls.length=ms.length
 ·have hb:((ls.length:Int) != (ms.length:Int))=false:=by rw[hl];simp
  have hb2:((ls.length:Int) == (ms.length:Int))=true:=by rw[hl];simp
  have HL:=J hl;clear hl;go_enter Tryz.func45,Tryz.ntmps45;go_wp2_with fail;go_loopw [8] (fun i wr=>∃k:Nat,k<=ls.length/\i= .int .i64 k/\Hid (ls.take k=ms.take k)/\Ext w wr) (fun i _=>ls.length-(intOf i).toNat)
  case atStart=>exact⟨0,by omega,rfl,rfl,Ext.refl _⟩
  case round=>
   obtain⟨k,hk,rfl,HK,an⟩:=hrel;by_cases hlt:k<ls.length
   ·have hlt2:k<ms.length:=by have:=HL.o;omega
    obtain⟨b,o,rfl,b9,ac⟩:=HC.o (by omega);obtain⟨b',o',rfl,St,bw⟩:=HC'.o (by omega);have hx:=(an.cell b9).trans (ac k hlt);have hy:=(an.cell St).trans (bw k hlt2);have aF:=J (fun he=>Pr HK.o hlt hlt2 he);have cW:Hid (ls[k]≠ms[k]->decide (ls=ms)=false):=J (fun he=>by
     rw[decide_eq_false_iff_not];intro e;subst e;exact he rfl)
    clear ac bw;generalize ls[k]=x at *;generalize ms[k]=y at *;have HX:=J an;clear an;have h0:(0:Int)<=(k:Int):=by omega
    have h1:(k:Int)<(ls.length:Int):=by omega
    have h2:(k:Int)<(ms.length:Int):=by omega
    by_cases he:x=y
    ·subst he;have HT:=J (aF.o rfl);go_wp2_with fail;go_quiet (fail);go_wp2_with fail;go_roundw
     case rel=>exact⟨k+1,by omega,by go_num,HT,HX.o.drewN _⟩
     case measure=>simp[intOf];omega
    ·have kq:(x == y)=false:=by rw[beq_eq_false_iff_ne];exact he
     have HD:=J (cW.o he);clear he;go_wp2_with fail;go_quiet (fail);go_wp2_with fail;go_ret;rw[HD.o];exact⟨rfl,HX.o.drewN _⟩
   ·obtain rfl:k=ls.length:=by omega
    have HD:Hid (decide (ls=ms)=true):=J (by
     rw[decide_eq_true_iff];have h1:=HK.o;rw[List.take_of_length_le (Nat.le_refl _),List.take_of_length_le (by rw[HL.o];exact Nat.le_refl _)]at h1;exact h1)
    go_wp2_with fail;go_ret;rw[HD.o];exact⟨rfl,an⟩
 ·have hb:((ls.length:Int) != (ms.length:Int))=true:=by rw[bne_iff_ne];omega
  have hb2:((ls.length:Int) == (ms.length:Int))=false:=by rw[beq_eq_false_iff_ne];omega
  have HD:Hid (decide (ls=ms)=false):=J (by
   rw[decide_eq_false_iff_not];intro e;exact hl (by rw[e]))
  clear hl;go_enter Tryz.func45,Tryz.ntmps45;go_wp2_with fail;go_loopw [8] (fun i wr=>i= .int .i64 0/\Ext w wr) (fun i _=>ls.length-(intOf i).toNat)
  case atStart=>exact⟨rfl,Ext.refl _⟩
  case round=>
   obtain⟨rfl,an⟩:=hrel;by_cases hlt:0<ls.length
   ·have HX:=J an;clear an;go_wp2_with fail;go_quiet (fail);go_wp2_with fail;go_ret;rw[HD.o];exact⟨rfl,HX.o.drewN _⟩
   ·go_wp2_with fail;go_ret;rw[HD.o];exact⟨rfl,an⟩
end Big
end Go.Proofs.YtkoaogkknnelaaaGreatDoor
