import Derived.Test.YtkoaogkknnelaaaGreatDoorM40
import Derived.Deep.SlicePairs
set_option linter.unusedVariables false
set_option linter.unusedSimpArgs false
set_option maxHeartbeats 16000000
set_option maxRecDepth 100000
namespace Go.Proofs.YtkoaogkknnelaaaGreatDoor
open Go.ChangeShapes Go.WideShapes Go.ChangeAt Go.RowKit
theorem QI:Tryz.prog.cellsOf 62=2:=by kernel_rfl
theorem QG:Tryz.prog.cellsOf 9=1:=by kernel_rfl
theorem QH:Tryz.prog.cellsOf 3=1:=by kernel_rfl
section
variable {H:Type} {enc:TypeId × Value->H} {W:World} {v:Value} {d:DataW H} {p:List MemPlace} {r:Reach} {b0:Nat}
def Sj(env:Big.Env):Prop:=∀b∈env,b.1.length<=maxLen/\(Lit.int .i64 b.2).wf=true
theorem Ko{fuel:Nat}{y:DataW H × List MemPlace}(h:DataW.trod enc Tryz.prog W 0 (fun _=>true) true fuel 60 [v]=some y):∃env,Big.RdE W v env/\Sj env:=by
 rcases Deep.open_slice_pairs Tryz.underlying60 Tryz.underlying62 QI rfl rfl QG QH h with ⟨hv,_⟩|⟨a,len,cap,m,n,V0,V1,D0,D1,P0,P1,hv,_,hl,hm,hmm,_,hc⟩
 ·injection hv with hv
  subst hv;exact⟨[],⟨none,0,rfl,fun h=>absurd h (by decide)⟩,fun b hb=>by cases hb⟩
 ·injection hv with hv
  subst hv;simp only[if_true]at hmm;have Uz:∀i,i<len->∃q:Big.Tx × Int,W.cell? (a.add (i*2))=some (Big.str q.1)/\W.cell? (a.add (i*2+1))=some (.int .i64 q.2)/\q.1.length<=maxLen/\(Lit.int .i64 q.2).wf=true:=by
   intro i hi;obtain⟨h0,h1,h2,h3⟩:=hc i (by omega);obtain⟨s,hs,_,hw⟩:=DataW.trod_string Tryz.underlying9 h2;obtain⟨z,hz,_,aY⟩:=DataW.trod_int Tryz.underlying3 h3;injection hs with hs
   injection hz with hz
   obtain⟨l,fG,rfl⟩:=Fc hw;exact⟨(l,z),by rw[h0,hs];rfl,by rw[h1,hz],fG,aY⟩
  obtain⟨q,hq⟩:=Deep.choose_lt Uz;refine⟨(List.range len).map q,⟨some a,cap,by simp,fun hp=> ?_⟩,fun b hb=> ?_⟩
  ·simp only[List.length_map,List.length_range]at hp;have h0:=(hq 0 hp).1;obtain⟨b,off,yr⟩:=a;have uK:yr=none:=by simpa [Addr.add] using World.cell?_spot h0
   subst uK;have hlt:=World.block_lt_of_cell? W _ h0;have vh:b<W.heap.size:=by simpa [Addr.add] using hlt
   refine⟨b,off,rfl,vh,fun i hi=> ?_⟩;simp only[List.length_map,List.length_range]at hi;obtain⟨h1,h2,_⟩:=hq i hi;rw[Go.WideShapes.add_plain]at h1 h2;simp only[List.getElem_map,List.getElem_range];exact⟨h1,by rw[<-Nat.add_assoc]at h2;exact h2⟩
  ·obtain⟨i,hi,rfl⟩:=List.mem_map.1 hb;exact(hq i (List.mem_range.1 hi)).2.2
theorem N1(hv:Value.okWide Tryz.prog W r b0 60 v)(h:DataW.Trod enc Tryz.prog W 0 (fun _=>true) true 60 v d p):∃env,Big.RdE W v env/\Sj env:=by
 obtain⟨a,len,cap,rfl⟩:=okWide_slice Tryz.underlying60 hv;obtain⟨fuel,hf⟩:=h;exact Ko (by simpa [Value.cells] using hf)
end
end Go.Proofs.YtkoaogkknnelaaaGreatDoor
namespace Go.Proofs.YtkoaogkknnelaaaGreatDoor
namespace Big
open Lib renaming hid → J
def Ld:List Nd:=[⟨3,0,0,0,[]⟩,⟨2,0,0,0,[97]⟩,⟨5,1,0,0,[]⟩,⟨11,2,0,0,[]⟩,⟨4,0,0,0,[]⟩]
def AI(L:Nat):List Nd:=Ld++(List.range (L-5)).map fun i=>⟨5,(i:Int)+4,0,0,[]⟩
def H9:Env:=[([97],0)]
theorem Bd{L:Nat}(h:5<=L):(AI L).length=L:=by
 unfold AI;rw[List.length_append,List.length_map,List.length_range,show Ld.length=5 from rfl];omega
theorem J0{L:Nat}(h:5<=L):AI (L+1)=AI L++[⟨5,(L:Int)-1,0,0,[]⟩]:=by
 unfold AI;rw[show L+1-5=(L-5)+1 by omega,List.range_succ,List.map_append,List.append_assoc]
 congr 2
 simp only[List.map_cons,List.map_nil];rw[show (((L-5:Nat)):Int)+4=(L:Int)-1 by omega]
theorem OG:Aw Ld:=by
 refine⟨by decide,fun i x hx=> ?_⟩;have hi:i<5:=(List.getElem?_eq_some_iff.1 hx).1;rcases(show i=0\/i=1\/i=2\/i=3\/i=4 by omega) with rfl|rfl|rfl|rfl|rfl
 ·injection hx with hx
  subst hx;exact .inl ⟨3,[],rfl,.inr (.inr ⟨.inl rfl,rfl⟩)⟩
 ·injection hx with hx
  subst hx;exact .inl ⟨2,[97],rfl,.inr (.inl ⟨rfl,by decide⟩)⟩
 ·injection hx with hx
  subst hx;exact .inr (.inl ⟨5,0,1,rfl,⟨.inl rfl,fun _=>rfl,by decide,by decide⟩,by decide⟩)
 ·injection hx with hx
  subst hx;exact .inr (.inl ⟨11,0,2,rfl,⟨.inr ⟨by decide,by decide⟩,fun _=>rfl,by decide,by decide⟩,by decide⟩)
 ·injection hx with hx
  subst hx;exact .inl ⟨4,[],rfl,.inr (.inr ⟨.inr rfl,rfl⟩)⟩
theorem QV{ns:List Nd}(hs:Aw ns){k a:Nat}(hk:k=5\/k=11)(ha:ns.length<=a+1):(⟨(k:Int),(a:Int),0,0,[]⟩:Nd)∉ns:=by
 intro h;obtain⟨i,hi,he⟩:=List.getElem_of_mem h;rcases hs.2 i _ (by rw[List.getElem?_eq_getElem hi,he]) with ⟨k',t',e,hl⟩|⟨k',n',j',e,hu,hj⟩|⟨k',j',q',e,hq,hj,_⟩
 ·injection e with e1
  have:=hl.few;omega
 ·injection e with _ e2
  omega
 ·injection e with e1
  omega
theorem FW{L:Nat}(h:5<=L):Aw (AI L):=by
 obtain⟨d,rfl⟩:∃d,L=5+d:=⟨L-5,by omega⟩
 induction d with
 |zero=>exact OG
 |succ d ih=>
  have ih:=ih (by omega);rw[<-Nat.add_assoc];have hL:5<=5+d:=by omega
  generalize 5+d=L at *;have pD:(⟨((5:Nat):Int),((L-1:Nat):Int),0,0,[]⟩:Nd)∉AI L:=QV ih (.inl rfl) (by rw[Bd hL];omega);have h2:=Aw.put ih (x:=⟨((5:Nat):Int),((L-1:Nat):Int),0,0,[]⟩) (.inr (.inl ⟨5,0,L-1,rfl,⟨.inl rfl,fun _=>rfl,by decide,by decide⟩,by rw[Bd hL];omega⟩));unfold AN at h2;rw[if_neg pD]at h2;rw[J0 hL];rw[show (L:Int)-1=((L-1:Nat):Int) by omega];exact h2
theorem CL{L i:Nat}(hi:i<5):(AI L)[i]? =Ld[i]? :=by
 unfold AI;rw[List.getElem?_append_left (by exact hi)]
theorem MD(L:Nat)(t:Tx):¬AB (AI L) 0 t:=fun h=>by
 have hr:Rep (AI L) 0 (.leaf 3 []):=CL (L:=L) (i:=0) (by decide);have:=(DL (e:= .leaf 3 []) (.inr (.inr ⟨.inl rfl,rfl⟩)) hr).1 h;simp[Cr]at this
theorem MC{L:Nat}{t:Tx}(h:AB (AI L) 3 t):t=[97]:=by
 have hr:Rep (AI L) 3 (.un 11 0 (.un 5 0 (.leaf 2 [97]))):=⟨2,⟨1,CL (L:=L) (i:=1) (by decide),CL (L:=L) (i:=2) (by decide)⟩,CL (L:=L) (i:=3) (by decide)⟩;have:=(DL (e:= .un 11 0 (.un 5 0 (.leaf 2 [97]))) ⟨.inr ⟨by decide,by decide⟩,fun _=>rfl,by decide,by decide,⟨.inl rfl,fun _=>rfl,by decide,by decide,.inr (.inl ⟨rfl,by decide⟩)⟩⟩ hr).1 h
 simpa [Cr] using this
theorem RU(L:Nat)(t:Tx):¬B2 (AI L) H9 0 t:=fun h=>AA.inside (S:=fun _=>False) (fun t ht=>MD L t ht) (fun _ _ h=>h.elim) h
theorem QA{L:Nat}{t:Tx}(h:B2 (AI L) H9 3 t):t=[97]:=AA.inside (S:=fun t=>t=[97]) (fun t ht=>MC ht) (fun t s h _ hn=>by
 subst h;exact absurd hn (MD L s)) h
theorem Qu{L:Nat}(h:5<=L):AO (AI L) H9:=by
 refine⟨⟨by decide,?_,?_,?_⟩,?_,?_⟩
 ·intro b hb;rw[H9,List.mem_singleton]at hb;subst hb;decide
 ·intro b hb;rw[H9,List.mem_singleton]at hb;subst hb;rw[Bd h];exact⟨by decide,by simp only;omega⟩
 ·unfold DB Asc;decide
 ·intro b hb;rw[H9,List.mem_singleton]at hb;subst hb;exact fun t ht=>absurd ht (RU L t)
 ·intro b hb;rw[H9,List.mem_singleton]at hb;subst hb;exact RU L _
def RZ:Ex:= .un 11 0 (.un 5 0 (.leaf 3 []))
theorem Lc(L:Nat):AM (AI L) H9 3 RZ:=
 .un (k:=11) (j:=2) (CL (i:=3) (by decide)) ⟨.inr ⟨by decide,by decide⟩,fun _=>rfl,by decide,by decide⟩
  (.un (k:=5) (j:=1) (CL (i:=2) (by decide)) ⟨.inl rfl,fun _=>rfl,by decide,by decide⟩
    (.name (n:=0) (t:=[97]) (CL (i:=1) (by decide)) rfl (.leaf (k:=3) (CL (i:=0) (by decide)) (by decide) (.inr (.inr ⟨.inl rfl,rfl⟩)))))
theorem MA(L:Nat):(⟨5,0,0,0,[]⟩:Nd)∉AI L:=by
 intro h;unfold AI at h;rcases List.mem_append.1 h with h|h
 ·revert h
  decide
 ·obtain⟨i,_,e⟩:=List.mem_map.1 h;injection e with _ e2
  omega
theorem TP{L:Nat}(h:5<=L):Ai (AI L) RZ=(L+1,AI L++[⟨5,0,0,0,[]⟩]++[⟨11,(L:Int),0,0,[]⟩]):=by
 have h0:Ai (AI L) (.leaf 3 [])=(0,AI L):=J6 (FW h).1 (CL (L:=L) (i:=0) (by decide));have h1:Ai (AI L) (.un 5 0 (.leaf 3 []))=(L,AI L++[⟨5,0,0,0,[]⟩]):=by
  rw[Ai,h0];show AN (AI L) ⟨5,0,0,0,[]⟩=_;unfold AN;rw[if_neg (MA L),Bd h]
 have hs:Aw (AI L++[⟨5,0,0,0,[]⟩]):=by
  have h2:=Aw.put (FW h) (x:=⟨((5:Nat):Int),((0:Nat):Int),0,0,[]⟩) (.inr (.inl ⟨5,0,0,rfl,⟨.inl rfl,fun _=>rfl,by decide,by decide⟩,by rw[Bd h];omega⟩));have e2:AN (AI L) ⟨((5:Nat):Int),((0:Nat):Int),0,0,[]⟩=(L,AI L++[⟨5,0,0,0,[]⟩]):=by
   show AN (AI L) ⟨5,0,0,0,[]⟩=_;unfold AN;rw[if_neg (MA L),Bd h]
  rw[e2]at h2;exact h2
 unfold RZ;rw[Ai,h1];show AN (AI L++[⟨5,0,0,0,[]⟩]) ⟨((11:Nat):Int),(L:Int),0,0,[]⟩=_;unfold AN;rw[if_neg (QV (k:=11) (a:=L) hs (.inr rfl) (by rw[List.length_append,Bd h];exact Nat.le_refl _)),List.length_append,Bd h];rfl
theorem IL(L:Nat):B8 (AI L) H9 3:=fun t ht=>by
 rw[QA ht];decide
theorem Tq{L:Nat}(h:4094<L):ED (AI L) H9 3 0 7 (AI L):=by
 refine .inr (.inr ⟨by decide,by rw[Bd (by omega)];omega,IL L,RZ,Lc L,.inr ⟨?_,rfl,rfl,rfl⟩⟩);rw[TP (by omega),List.length_append,List.length_append,Bd (by omega)];simp only[List.length_singleton];omega
theorem Tp{L:Nat}(h:5<=L)(h2:L<=4094):ED (AI L) H9 3 ((L:Int)+1) 0 (AI L++[⟨5,0,0,0,[]⟩]++[⟨11,(L:Int),0,0,[]⟩]):=by
 refine .inr (.inr ⟨by decide,by rw[Bd h];omega,IL L,RZ,Lc L,.inl ?_⟩);rw[TP h];refine⟨?_,by simp,rfl,rfl⟩;rw[List.length_append,List.length_append,Bd h];simp only[List.length_singleton];omega
theorem SP{L:Nat}(h:5<=L):(AI L++[⟨5,0,0,0,[]⟩]++[⟨11,(L:Int),0,0,[]⟩]:List Nd).length=L+2:=by
 rw[List.length_append,List.length_append,Bd h];rfl
open Go.RowKit
theorem FA {w:World} {v:Value} {xs ys:List Nd} {B:Nat} {ops:Array Oper} {rest:List Oper} {o:Oper} {a:Act} {Q:Exit->Act->World->Prop} (eT:o.guard=none) (s x:Operand)
  (ho:o.op= .call { callee:= .builtin .append,args:= #[s,x],argTypes:= #[32,32] })
  (hs:a.eval s=v) (ag:Ak B w v xs) (ad:Addr) (c:Nat) (hx:a.eval x= .slice (some ad) ys.length c) (ig:∀j u,(Bm ys)[j]? =some u->w.cell? (ad.add j)=some u) (hn:xs.length+ys.length<=1000000) (bj:B<=w.heap.size)
  (h:∀v' w',Ak B w' v' (xs++ys)->Below B w w'->wpList Tryz.prog ops Q rest (a.put o.dst v') w'):wpList Tryz.prog ops Q (o::rest) a w:=by
 obtain⟨i0,hi,aU,hz1,a9⟩:=info_parts Dj;refine wpList_append_own w eT s x 32 ho B 95 i0 _ 5 48 Tryz.underlying32 hi aU hz1 a9 rfl (by decide) v xs.length (Bm xs) hs ag ad ys.length c (Bm ys) hx (EK ys) ig (fun u hu=> ?_) (by unfold maxLen;omega) (by omega) bj (fun v' w' h1 h2 _=>h v' w' ?_ ?_)
 ·unfold Bm at hu;obtain⟨x,_,hu⟩:=List.mem_flatMap.1 hu;simp only[ndC,List.mem_cons,List.not_mem_nil,or_false]at hu;rcases hu with rfl|rfl|rfl|rfl|rfl<;>rfl
 ·unfold Ak;rw[Cz,List.length_append];exact h1
 ·exact Below.grown (Below.refl B w) h2 bj (fun k hk=>AC ag k hk)
theorem S1(w:World):AG w.heap.size (w.alloc (.cells #[.string ⟨#[97]⟩,.int .i64 0] 62)) (.slice (some ⟨w.heap.size,0,none⟩) 1 1) H9:=by
 unfold AG World.ownsRow;exact⟨rfl,.inr ⟨w.heap.size,1,_,rfl,Nat.le_refl _,(Blk.new w _ _),by decide,by decide,rfl,rfl⟩⟩
def RF:Value->Nat
 | .slice _ n _=>n
 |_=>0
theorem Hf(w:World)(n:Int)(hn: -9223372036854775808<=n/\n<=9223372036854775807)(hm:BC w):
  Calls Tryz.prog 10 #[.int .i64 n] w fun e w'=>e= .returned (.bool true)/\Ext w w':=by
 have gK:=J (DZ w hm);have HM:=J hm;have oG:=J (fun W=>Gb W n 4 hn.1 hn.2 (by decide) (by decide));obtain⟨r,hr⟩:∃r:Nat,n % 4=(r:Int):=⟨(n % 4).toNat,by omega⟩;have dX:r<4:=by omega
 rw[hr]at oG;clear hm hr hn;go_enter Tryz.func10,Tryz.ntmps10;go_wp2_with fail;refine gK.o.mono ?_
 rintro e w1 ⟨rfl,am⟩;have ah:=J am;have bC:Hid (∀j u,(Bm Ld)[j]? =some u->(w1.alloc (.cells #[.int .i64 3,.int .i64 0,.int .i64 0,.int .i64 0,.string ⟨#[]⟩,.int .i64 2,.int .i64 0,.int .i64 0,.int .i64 0,.string ⟨#[97]⟩,.int .i64 5,.int .i64 1,.int .i64 0,.int .i64 0,.string ⟨#[]⟩,.int .i64 11,.int .i64 2,.int .i64 0,.int .i64 0,.string ⟨#[]⟩,.int .i64 4,.int .i64 0,.int .i64 0,.int .i64 0,.string ⟨#[]⟩] 95)).cell? ((⟨w1.heap.size,0,none⟩:Addr).add j)=some u):=J (Bw w1 95 _);have ax:=J ((Ext.refl w1).alloc (.cells #[.int .i64 3,.int .i64 0,.int .i64 0,.int .i64 0,.string ⟨#[]⟩,.int .i64 2,.int .i64 0,.int .i64 0,.int .i64 0,.string ⟨#[97]⟩,.int .i64 5,.int .i64 1,.int .i64 0,.int .i64 0,.string ⟨#[]⟩,.int .i64 11,.int .i64 2,.int .i64 0,.int .i64 0,.string ⟨#[]⟩,.int .i64 4,.int .i64 0,.int .i64 0,.int .i64 0,.string ⟨#[]⟩] 95));have jx:=J ax.o.size;clear am gK;go_wp2_with (at_builtin;go_must (refine FA (B:=w1.heap.size) (xs:=[]) (ys:=Ld) rfl _ _ rfl rfl (Ak.nil _ _) ⟨w1.heap.size,0,none⟩ 5 rfl bC.o (by decide) jx.o ?_;intro v2 w2 bN hb2;rw[List.nil_append]at bN;have el:=J bN;have aq:=J (ax.o.more hb2);obtain⟨A2,c2,rfl⟩:=bN.shape;clear bN hb2));clear bC ax jx;go_loopw [3] (fun s3 wr=>∃(L:Nat) (A:Option Addr) (c:Nat),5<=L/\L+r<=4096/\s3= .slice A L c/\Ak w1.heap.size wr (.slice A L c) (AI L)/\Ext w1 wr) (fun s3 _=>4096-RF s3)
 case atStart=>exact⟨5,A2,c2,by decide,by omega,rfl,el.o,aq.o⟩
 case round=>
  obtain⟨L,A,c,pU,hLr,rfl,ho,hx⟩:=hrel;have HO:=J ho;have HX:=J hx;have aL:IntKind.i64.wrap (4096-(r:Int))=4096-(r:Int):=IntWalk.i64_in _ (by omega);have aY:IntKind.i64.wrap ((L:Int)-1)=(L:Int)-1:=IntWalk.i64_in _ (by omega);clear ho hx el aq;by_cases hlt:L+r<4096
  ·have cx:decide ((L:Int)<4096-(r:Int))=true:=decide_eq_true (by omega);have bC:Hid (∀j u,(Bm [⟨5,(L:Int)-1,0,0,[]⟩])[j]? =some u->(wr.alloc (.cells #[.int .i64 5,.int .i64 ((L:Int)-1),.int .i64 0,.int .i64 0,.string ⟨#[]⟩] 95)).cell? ((⟨wr.heap.size,0,none⟩:Addr).add j)=some u):=J (Bw wr 95 _);have lN:=J (HO.o.ext ((Ext.refl wr).alloc (.cells #[.int .i64 5,.int .i64 ((L:Int)-1),.int .i64 0,.int .i64 0,.string ⟨#[]⟩] 95)));have ax:=J (HX.o.alloc (.cells #[.int .i64 5,.int .i64 ((L:Int)-1),.int .i64 0,.int .i64 0,.string ⟨#[]⟩] 95));have jx:=J ax.o.size;have dN:Hid ((AI L).length+([⟨5,(L:Int)-1,0,0,[]⟩]:List Nd).length<=1000000):=J (by rw[Bd pU,List.length_singleton];omega);go_wp2_with fail;refine(oG.o _).mono ?_
   rintro e w3 ⟨rfl,rfl⟩;go_wp2_with (at_builtin;go_must (refine FA (B:=w1.heap.size) (xs:=AI L) (ys:=[⟨5,(L:Int)-1,0,0,[]⟩]) rfl _ _ rfl rfl lN.o ⟨wr.heap.size,0,none⟩ 1 rfl bC.o dN.o jx.o ?_;intro v3 w3 dr cV;rw[<-J0 pU]at dr;obtain⟨A3,c3,hv3⟩:=dr.shape;rw[Bd (by omega)]at hv3;subst hv3));have j7:=J dr;have aj:=J (ax.o.more cV);clear dr cV;go_roundw
   case rel=>exact⟨L+1,A3,c3,by omega,by omega,rfl,j7.o,aj.o⟩
   case measure=>simp only[RF];omega
  ·have cx:decide ((L:Int)<4096-(r:Int))=false:=decide_eq_false (by omega);have j9:=J (K2 _ wr _ (AI L) HO.o (FW pU) (by rw[Bd pU];omega) (HM.o.ext (ah.o.trans HX.o)));have sI:Hid (w.heap.size<=wr.heap.size):=J (ah.o.trans HX.o).size;unfold Ho at j9;rw[Bd pU]at j9;go_wp2_with fail;refine(oG.o _).mono ?_
   rintro e w3 ⟨rfl,rfl⟩;go_wp2_with fail;refine j9.o.mono ?_
   rintro e w3 ⟨g,b,nv,rfl,jN,ae⟩;have aj:=J ((ah.o.trans HX.o).trans ae);have eQ:=J jN;clear jN ae j9 HO HX;go_upto_region 11 with fail;have eR:=S1 w3;have aR:=(Ext.refl w3).alloc (.cells #[.string ⟨#[97]⟩,.int .i64 0] 62);generalize w3.alloc (.cells #[.string ⟨#[97]⟩,.int .i64 0] 62)=w4 at *;generalize w3.heap.size=eb at *;have aE:=J (aj.o.trans aR);have iS:=J (eQ.o.keep aR);have bH:=J (Dc _ g b w4 (AI L) nv (eQ.o.keep aR) _ H9 (eR.mono (Nat.zero_le _)) (Qu pU) 3 (HM.o.ext (aj.o.trans aR)));unfold Ck at bH;clear eR aR aj eQ;go_wp2_with fail;refine bH.o.mono ?_
   rintro e w5 ⟨z,k,ms,xC,rfl,aB,fT,eK⟩;have bg:=J (aE.o.more (Below.mono (eK.below iS.o) sI.o));have li:=J fT;clear fT eK bH aE iS;by_cases hr2:r<2
   ·have ba:decide ((r:Int)<2)=true:=decide_eq_true (by omega);have kT:decide (r<2)=true:=decide_eq_true hr2;obtain⟨rfl,rfl,rfl⟩:=aB.uniq (Tq (by omega));have eW:=J (FT _ g b w5 _ xC li.o);rw[Bd pU]at eW;clear aB;go_wp2_with fail;refine(oG.o _).mono ?_
    rintro e w6 ⟨rfl,rfl⟩;go_wp2_with fail;refine eW.o.mono ?_
    rintro e w6 ⟨rfl,rfl⟩;go_wp2_with fail;go_ret;exact⟨rfl,bg.o⟩
   ·have ba:decide ((r:Int)<2)=false:=decide_eq_false (by omega);have kT:decide (r<2)=false:=decide_eq_false hr2;have bf:IntKind.i64.wrap ((L:Int)+2)=(L:Int)+2:=IntWalk.i64_in _ (by omega);obtain⟨rfl,rfl,rfl⟩:=aB.uniq (Tp pU (by omega));have eW:=J (FT _ g b w5 _ xC li.o);rw[SP pU]at eW;clear aB;go_wp2_with fail;refine(oG.o _).mono ?_
    rintro e w6 ⟨rfl,rfl⟩;go_wp2_with fail;refine eW.o.mono ?_
    rintro e w6 ⟨rfl,rfl⟩;go_wp2_with fail;go_ret;exact⟨rfl,bg.o⟩
end Big
end Go.Proofs.YtkoaogkknnelaaaGreatDoor
