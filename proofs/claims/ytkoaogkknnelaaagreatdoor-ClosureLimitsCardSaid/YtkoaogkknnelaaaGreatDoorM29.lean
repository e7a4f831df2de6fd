import Derived.Carry
import Derived.Test.YtkoaogkknnelaaaGreatDoorM28
import Derived.Test.YtkoaogkknnelaaaGreatDoorShelf5
set_option linter.unusedVariables false
set_option linter.unusedSimpArgs false
set_option maxHeartbeats 4000000
set_option maxRecDepth 100000
namespace Go.Proofs.YtkoaogkknnelaaaGreatDoor
namespace Big
open Lib renaming hid → J
open Go.RowKit
theorem MY(w:World)(hm:BC w):
  Calls Tryz.prog 69 #[] w fun e w'=>∃g b,e= .returned (.pointer (some ⟨g,0,none⟩))/\GrP w.heap.size g b w' [] (.slice none 0 0)/\Ext w w':=by
 have hmm:=fun W=> @run_makeMap Tryz.prog 78 W
 have lC:0<w.heap.size:=by
  obtain⟨m,h⟩:=hm;exact World.block_lt_of_cell? w _ h
 have am:Ext w (w.alloc (.map #[] 0)):=(Ext.refl w).alloc _;have au:=am.alloc (.cells #[.slice none 0 0,.map (some w.heap.size)] 80);have HN:=J (DA.made w);have HX:=J au;have HB:=J (Blk.new (w.alloc (.map #[] 0)) 80 #[.slice none 0 0,.map (some w.heap.size)]);clear am au hm;go_enter Tryz.func69,Tryz.ntmps69;go_wp2_with fail;go_ret;refine⟨_,w.heap.size,rfl,⟨?_,Ak.nil _ _,HN.o.kept (Below.heap_alloc _ _ _ HN.o.lt),by simp,Nat.le_refl _,Aw.nil,by decide,lC⟩,HX.o⟩;have:=HB.o;simp only[World.size_alloc]at this;exact this
theorem M7(w:World)(b o n c:Nat)(l:List Nd)(hn:n=l.length)(hl:l.length<=1000000)(hc:∀j u,(Bm l)[j]? =some u->w.cell? ⟨b,o+j,none⟩=some u):
  Calls Tryz.prog 106 #[.slice (some ⟨b,o,none⟩) n c] w fun e w'=>∃v',e= .returned v'/\Ak w.heap.size w' v' l/\Ext w w':=by
 obtain⟨i0,hi,aU,hz1,a9⟩:=info_parts Dj;have h:=AnyE.slices_Clone Tryz.cloneNodesIt i0 (.agg #[.int .i64 0,.int .i64 0,.int .i64 0,.int .i64 0,.string ⟨#[]⟩]) 5 48 hi aU hz1 a9 rfl (by decide) (fun w=>by kernel_rfl) b o n c (Bm l) w (by rw[EK,hn]) (by unfold maxLen;omega) (by omega) hc (fun u hu=>by
  unfold Bm at hu;obtain⟨x,_,hu⟩:=List.mem_flatMap.1 hu;simp only[ndC,List.mem_cons,List.not_mem_nil,or_false]at hu;rcases hu with rfl|rfl|rfl|rfl|rfl<;>rfl)
 refine h.mono ?_
 rintro e w' ⟨v',rfl,ho,_,hx⟩;refine⟨v',rfl,?_,hx⟩;unfold Ak;rw[<-hn];exact ho
theorem OC(w:World)(b o n c:Nat)(l:List Nd)(hn:n=l.length)(hl:l.length<=1000000)(hc:∀j u,(Bm l)[j]? =some u->w.cell? ⟨b,o+j,none⟩=some u):
  Calls Tryz.prog 157 #[.slice (some ⟨b,o,none⟩) n c] w fun e w'=>∃v',e= .returned v'/\Ak w.heap.size w' v' l/\Ext w w':=by
 obtain⟨i0,hi,aU,hz1,a9⟩:=info_parts Dj;have h:=AnyE.slices_Clone Tryz.cloneListIt i0 (.agg #[.int .i64 0,.int .i64 0,.int .i64 0,.int .i64 0,.string ⟨#[]⟩]) 5 48 hi aU hz1 a9 rfl (by decide) (fun w=>by kernel_rfl) b o n c (Bm l) w (by rw[EK,hn]) (by unfold maxLen;omega) (by omega) hc (fun u hu=>by
  unfold Bm at hu;obtain⟨x,_,hu⟩:=List.mem_flatMap.1 hu;simp only[ndC,List.mem_cons,List.not_mem_nil,or_false]at hu;rcases hu with rfl|rfl|rfl|rfl|rfl<;>rfl)
 refine h.mono ?_
 rintro e w' ⟨v',rfl,ho,_,hx⟩;refine⟨v',rfl,?_,hx⟩;unfold Ak;rw[<-hn];exact ho
theorem Ak.cells{B:Nat}{w:World}{v:Value}{l:List Nd}(h:Ak B w v l):(l=[]/\v= .slice none 0 0)\/∃g c,v= .slice (some ⟨g,0,none⟩) l.length c/\∀j u,(Bm l)[j]? =some u->w.cell? ⟨g,0+j,none⟩=some u:=by
 unfold Ak at h;rcases h.2 with ⟨h1,h2⟩|⟨g,cap,cur,rfl,_⟩
 ·exact .inl ⟨List.eq_nil_of_length_eq_zero h2,by rw[h1]⟩
 ·refine .inr ⟨g,cap,rfl,fun j u hj=> ?_⟩;have hl:j<(Bm l).length:=by
   rcases Nat.lt_or_ge j (Bm l).length with h|h
   ·exact h
   ·rw[List.getElem?_eq_none h]at hj;cases hj
  rw[EK]at hl;rw[Nat.zero_add,h.cellAt j hl,hj]
theorem Oj(B:Nat)(w:World)(v:Value)(l:List Nd)(h:Ak B w v l)(hl:l.length<=1000000):
  Calls Tryz.prog 106 #[v] w fun e w'=>∃v',e= .returned v'/\Ak w.heap.size w' v' l/\Ext w w':=by
 rcases h.cells with ⟨rfl,rfl⟩|⟨g,c,rfl,hc⟩
 ·refine(AnyE.slices_Clone_nil Tryz.cloneNodesIt 0 0 w).mono ?_
  rintro e w' ⟨rfl,rfl⟩;exact⟨_,rfl,Ak.nil _ _,Ext.refl _⟩
 ·exact M7 w g 0 l.length c l rfl hl hc
theorem Of(B:Nat)(w:World)(v:Value)(l:List Nd)(h:Ak B w v l)(hl:l.length<=1000000):
  Calls Tryz.prog 157 #[v] w fun e w'=>∃v',e= .returned v'/\Ak w.heap.size w' v' l/\Ext w w':=by
 rcases h.cells with ⟨rfl,rfl⟩|⟨g,c,rfl,hc⟩
 ·refine(AnyE.slices_Clone_nil Tryz.cloneListIt 0 0 w).mono ?_
  rintro e w' ⟨rfl,rfl⟩;exact⟨_,rfl,Ak.nil _ _,Ext.refl _⟩
 ·exact OC w g 0 l.length c l rfl hl hc
theorem JR(B g b:Nat)(w:World)(ns:List Nd)(nv:Value)(h:GrP B g b w ns nv):
  Calls Tryz.prog 40 #[.pointer (some ⟨g,0,none⟩)] w fun e w'=>∃v',e= .returned v'/\Ak w.heap.size w' v' ns/\Ext w w':=by
 have bH:=J (Oj B w nv ns h.row (by have:=h.few;omega));have k0:=h.blk.twoG;obtain⟨A,c,rfl⟩:=h.row.shape;clear h;go_enter Tryz.func40,Tryz.ntmps40;go_wp2_with fail;refine bH.o.mono ?_
 rintro e w1 ⟨v',rfl,ho,hx⟩;have HE:=J (And.intro ho hx);clear ho hx;go_wp2_with fail;go_ret;exact⟨v',rfl,HE.o⟩
def Ho(ns:List Nd)(w:World)(e:Ending)(w':World):Prop:=∃g b nv,e= .returned (.tuple #[.pointer (some ⟨g,0,none⟩),.int .i64 (ns.length:Int),.int .i64 0])/\GrP w.heap.size g b w' ns nv/\Ext w w'
theorem K2(B:Nat)(w:World)(v:Value)(ns:List Nd)(h:Ak B w v ns)(av:Aw ns)(hfew:ns.length<=4096)(hm:BC w):
  Calls Tryz.prog 52 #[v] w (Ho ns w):=by
 have HM:=J hm;have cD:=J av;have cW:=J (MY w hm);obtain⟨A,c,e7,aB⟩:=h.read;subst e7;have bH:=J aB;unfold Ho;obtain⟨n,bh⟩:∃n,n=ns.length:=⟨_,rfl⟩;have HN:=J bh;rw[<-bh]at hfew ⊢;clear h aB hm av bh;go_enter Tryz.func52,Tryz.ntmps52;go_wp2_with fail;refine cW.o.mono ?_
 rintro e w1 ⟨g,b,rfl,hg,hx⟩;have jp:=J hg;have ah:=J hx;clear hg hx cW;go_wp2_with fail;go_loopw [13] (fun s13 wr=>∃i:Nat,i<=n/\s13= .int .i64 (i:Int)/\∃nv,GrP w.heap.size g b wr (ns.take i) nv/\Ext w wr) (fun s13 _=>n-(intOf s13).toNat)
 case atStart=>exact⟨0,Nat.zero_le _,rfl,_,by rw[List.take_zero];exact jp.o,ah.o⟩
 case round=>
  clear jp ah;obtain⟨i,hi,rfl,nv,hg,hx⟩:=hrel;by_cases hlt:i<n
  ·have hit:i<ns.length:=by rw[<-HN.o];exact hlt
   have av:=cD.o.2 i _ (List.getElem?_eq_getElem hit);have hpl:=cD.o.load hit;have hlt2:(ns.take i).length=i:=by rw[List.length_take];omega
   have az:=J (fun W h hm=>JQ w.heap.size g b W (ns.take i) nv h ns[i] (by rw[hlt2];exact av) hm (by omega));unfold Hn at az;rw[hpl]at az;have HG:=J hg;have HX:=J hx;obtain⟨gb,o,rfl,bO,hc⟩:=bH.o (by omega);obtain⟨p0,p1,p2,p3,p4⟩:=hc i hit;rw[<-hx.cell bO]at p0 p1 p2 p3 p4;have al:gb<wr.heap.size:=Nat.lt_of_lt_of_le bO hx.size;have gA:(0:Int)<=(i:Int):=by omega
   have hil:(i:Int)<(n:Int):=by omega
   have lr:IntKind.i64.wrap ((i:Int)+1)=(i:Int)+1:=IntWalk.i64_in _ (by omega);generalize ns[i]=x at *;clear hc av hpl hit hlt2 hg hx;obtain⟨y0,y1,y2,y3,y4⟩:=x;simp only[ndV]at az;simp only at p0 p1 p2 p3 p4;obtain⟨s,hs⟩:∃s:ByteArray,s=⟨(y4:List UInt8).toArray⟩:=⟨_,rfl⟩;have ai:str y4= .string s:=by rw[hs];rfl
   rw[ai]at p4 az;clear hs ai;have aQ:=J (Blk.new wr 95 #[.int .i64 y0,.int .i64 y1,.int .i64 y2,.int .i64 y3,.string s]);have ay:=J ((Ext.refl wr).alloc (.cells #[.int .i64 y0,.int .i64 y1,.int .i64 y2,.int .i64 y3,.string s] 95));obtain⟨w7,cU⟩:∃w7,w7=wr.alloc (.cells #[.int .i64 y0,.int .i64 y1,.int .i64 y2,.int .i64 y3,.string s] 95):=⟨_,rfl⟩;rw[<-cU]at aQ ay;have q0:=aQ.o.five;go_upto_region 5 with fail;rw[<-cU];clear cU p0 p1 p2 p3 p4;have kC:=J (HX.o.trans ay.o);go_wp2_with fail;refine(az.o w7 (HG.o.keep ay.o) (HM.o.ext kC.o)).mono ?_
   rintro r w8 ⟨nv2,rfl,bJ,mS⟩;have yh:=J mS;have bV:=J (kC.o.more (bJ.below (HG.o.keep ay.o)));clear bJ mS q0;go_wp2_with fail;go_roundw
   case rel=>exact⟨i+1,hlt,by go_num,nv2,yh.o,bV.o⟩
   case measure=>simp[intOf];omega
  ·obtain rfl:i=n:=by omega
   have iM:GrP w.heap.size g b wr ns nv:=by
    have h:=hg;rw[HN.o,List.take_length]at h;exact h
   have HG:=J iM;have HX:=J hx;clear hg iM hx;go_wp2_with fail;go_ret3;exact⟨g,b,nv,rfl,HG.o,HX.o⟩
def szA(S args:List Nat):Nat:=args.foldl (fun s a=>min (s+S.getD a 0) 201) 1
def dpA(D args:List Nat):Nat:=args.foldl (fun d a=>max d (D.getD a 0+1)) 1
def T8(L:List Nat)(v r:Nat):List Nat:=L++v::List.replicate r 0
def TZ(ns:List Nd)(i:Int):Int:=if 0<=i/\i<(ns.length:Int) then (((TK ns).getD i.toNat 0:Nat):Int) else 0
theorem SM{w:World}{g:Nat}{t:TypeId}{c0 c1 c2 c3 c4:Value}(h:Blk w g t #[c0,c1,c2,c3,c4])(x0 x1 x2 x3 x4:Value):
  (w.setCell ⟨g,0,none⟩ x0).cell? ⟨g,0,none⟩=some x0/\((w.setCell ⟨g,0,none⟩ x0).setCell ⟨g,1,none⟩ x1).cell? ⟨g,1,none⟩=some x1/\(((w.setCell ⟨g,0,none⟩ x0).setCell ⟨g,1,none⟩ x1).setCell ⟨g,2,none⟩ x2).cell? ⟨g,2,none⟩=some x2/\
  ((((w.setCell ⟨g,0,none⟩ x0).setCell ⟨g,1,none⟩ x1).setCell ⟨g,2,none⟩ x2).setCell ⟨g,3,none⟩ x3).cell? ⟨g,3,none⟩=some x3/\(((((w.setCell ⟨g,0,none⟩ x0).setCell ⟨g,1,none⟩ x1).setCell ⟨g,2,none⟩ x2).setCell ⟨g,3,none⟩ x3).setCell ⟨g,4,none⟩ x4).cell? ⟨g,4,none⟩=some x4:=by
 have h1:=h.set_ 0 x0;have h2:=Blk.set_ h1 1 x1;have h3:=Blk.set_ h2 2 x2;have h4:=Blk.set_ h3 3 x3;have h5:=Blk.set_ h4 4 x4;exact⟨h1.cell 0,h2.cell 1,h3.cell 2,h4.cell 3,h5.cell 4⟩
def KS(ns:List Nd)(i:Int):Value:=if 0<=i/\i<(ns.length:Int) then .tuple #[ndV (ns.getD i.toNat ⟨0,0,0,0,[]⟩),.bool true] else .tuple #[ndV ⟨0,0,0,0,[]⟩,.bool false]
theorem EX{ns:List Nd}{i:Nat}(h:i<ns.length):KS ns (i:Int)= .tuple #[ndV ns[i],.bool true]:=by
 unfold KS;rw[if_pos ⟨by omega,by omega⟩,Int.toNat_natCast,List.getD_eq_getElem?_getD,List.getElem?_eq_getElem h];rfl
theorem KQ{ns:List Nd}{i:Int}(h:i<0\/(ns.length:Int)<=i):KS ns i= .tuple #[ndV ⟨0,0,0,0,[]⟩,.bool false]:=by
 unfold KS;rw[if_neg (by omega)]
theorem E4(B g b:Nat)(w:World)(ns:List Nd)(nv:Value)(h:GrP B g b w ns nv)(i:Int):
  Calls Tryz.prog 153 #[.pointer (some ⟨g,0,none⟩),.int .i64 i] w fun e w'=>e= .returned (KS ns i)/\Ext w w':=by
 have q7:=J (fun (k:Nat) (hk:k<ns.length)=>EX hk);have mK:=J (fun (h:i<0\/(ns.length:Int)<=i)=>KQ h);have hE:ndV ⟨0,0,0,0,[]⟩= .agg #[.int .i64 0,.int .i64 0,.int .i64 0,.int .i64 0,.string ⟨#[]⟩]:=rfl;have aM:=J (Blk.new w 95 #[.int .i64 0,.int .i64 0,.int .i64 0,.int .i64 0,.string ⟨#[]⟩]);have ah:=J ((Ext.refl w).alloc (.cells #[.int .i64 0,.int .i64 0,.int .i64 0,.int .i64 0,.string ⟨#[]⟩] 95));obtain⟨w1,aL⟩:∃w1,w1=w.alloc (.cells #[.int .i64 0,.int .i64 0,.int .i64 0,.int .i64 0,.string ⟨#[]⟩] 95):=⟨_,rfl⟩;rw[<-aL]at aM ah;have q0:=aM.o.five;have f0:=aM.o.frozen 0;have f1:=aM.o.frozen 1;have f2:=aM.o.frozen 2;have f3:=aM.o.frozen 3;have f4:=aM.o.frozen 4;have k0:=(h.keep ah.o).blk.twoG;obtain⟨A,c,e7,aB⟩:=h.row.read;subst e7;have bH:=J aB;clear h aB;have bP:=J (fun x0 x1 x2 x3 x4=>SM aM.o x0 x1 x2 x3 x4);by_cases h0:i<0
 ·have hd:decide (i<0)=true:=decide_eq_true h0;rw[mK.o (.inl h0),hE];clear q7 mK bH h0;go_enter Tryz.func153,Tryz.ntmps153;go_upto_region 1 with fail;rw[<-aL];clear aL;go_wp2_with fail;obtain⟨r0,r1,r2,r3,r4⟩:=bP.o (.int .i64 0) (.int .i64 0) (.int .i64 0) (.int .i64 0) (.string ⟨#[]⟩);refine bodyPost_ret (v:= .tuple #[.agg #[.int .i64 0,.int .i64 0,.int .i64 0,.int .i64 0,.string ⟨#[]⟩],.bool false]) (by simp[results,Tryz.results153,go_sem,r0,r1,r2,r3,r4]) rfl ⟨rfl,?_⟩;exact((((ah.o.setCell (p:=⟨w.heap.size,0,none⟩) (Nat.le_refl _) _).setCell (p:=⟨w.heap.size,1,none⟩) (Nat.le_refl _) _).setCell (p:=⟨w.heap.size,2,none⟩) (Nat.le_refl _) _).setCell (p:=⟨w.heap.size,3,none⟩) (Nat.le_refl _) _).setCell (p:=⟨w.heap.size,4,none⟩) (Nat.le_refl _) _
 have hd:decide (i<0)=false:=decide_eq_false h0;by_cases h1:(ns.length:Int)<=i
 ·have ba:decide (i>=(ns.length:Int))=true:=decide_eq_true h1;have kT:decide ((ns.length:Int)<=i)=true:=decide_eq_true h1;rw[mK.o (.inr h1),hE];clear q7 mK bH h0;go_enter Tryz.func153,Tryz.ntmps153;go_upto_region 1 with fail;rw[<-aL];clear aL;go_wp2_with fail;obtain⟨r0,r1,r2,r3,r4⟩:=bP.o (.int .i64 0) (.int .i64 0) (.int .i64 0) (.int .i64 0) (.string ⟨#[]⟩);refine bodyPost_ret (v:= .tuple #[.agg #[.int .i64 0,.int .i64 0,.int .i64 0,.int .i64 0,.string ⟨#[]⟩],.bool false]) (by simp[results,Tryz.results153,go_sem,r0,r1,r2,r3,r4]) rfl ⟨rfl,?_⟩;exact((((ah.o.setCell (p:=⟨w.heap.size,0,none⟩) (Nat.le_refl _) _).setCell (p:=⟨w.heap.size,1,none⟩) (Nat.le_refl _) _).setCell (p:=⟨w.heap.size,2,none⟩) (Nat.le_refl _) _).setCell (p:=⟨w.heap.size,3,none⟩) (Nat.le_refl _) _).setCell (p:=⟨w.heap.size,4,none⟩) (Nat.le_refl _) _
 have ba:decide (i>=(ns.length:Int))=false:=decide_eq_false h1;have kT:decide ((ns.length:Int)<=i)=false:=decide_eq_false h1;obtain⟨k,rfl⟩:∃k:Nat,(k:Int)=i:=⟨i.toNat,by omega⟩;have hk:k<ns.length:=by omega
 rw[q7.o k hk];obtain⟨gb,o,rfl,bO,hc⟩:=bH.o (by omega);obtain⟨p0,p1,p2,p3,p4⟩:=hc k hk;rw[<-ah.o.cell bO]at p0 p1 p2 p3 p4;have fy:(0:Int)<=(k:Int):=by omega
 have fg:(k:Int)<(ns.length:Int):=by omega
 have cw:gb<w1.heap.size:=Nat.lt_of_lt_of_le bO ah.o.size;generalize ns[k]=x at *;clear hc q7 mK bH hk h0 h1;obtain⟨y0,y1,y2,y3,y4⟩:=x;simp only at p0 p1 p2 p3 p4;simp only[ndV];obtain⟨s,hs⟩:∃s:ByteArray,s=⟨(y4:List UInt8).toArray⟩:=⟨_,rfl⟩;have ai:str y4= .string s:=by rw[hs];rfl
 rw[ai]at p4 ⊢;clear hs ai;go_enter Tryz.func153,Tryz.ntmps153;go_upto_region 1 with fail;rw[<-aL];clear aL;go_wp2_with fail;obtain⟨r0,r1,r2,r3,r4⟩:=bP.o (.int .i64 y0) (.int .i64 y1) (.int .i64 y2) (.int .i64 y3) (.string s);refine bodyPost_ret (v:= .tuple #[.agg #[.int .i64 y0,.int .i64 y1,.int .i64 y2,.int .i64 y3,.string s],.bool true]) (by simp[results,Tryz.results153,go_sem,r0,r1,r2,r3,r4]) rfl ⟨rfl,?_⟩;exact((((ah.o.setCell (p:=⟨w.heap.size,0,none⟩) (Nat.le_refl _) _).setCell (p:=⟨w.heap.size,1,none⟩) (Nat.le_refl _) _).setCell (p:=⟨w.heap.size,2,none⟩) (Nat.le_refl _) _).setCell (p:=⟨w.heap.size,3,none⟩) (Nat.le_refl _) _).setCell (p:=⟨w.heap.size,4,none⟩) (Nat.le_refl _) _
end Big
end Go.Proofs.YtkoaogkknnelaaaGreatDoor
