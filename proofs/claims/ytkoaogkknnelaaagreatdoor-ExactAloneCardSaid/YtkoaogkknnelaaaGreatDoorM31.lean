import Derived.Test.YtkoaogkknnelaaaGreatDoorM30
set_option linter.unusedVariables false
set_option linter.unusedSimpArgs false
set_option maxHeartbeats 8000000
set_option maxRecDepth 100000
namespace Go.Proofs.YtkoaogkknnelaaaGreatDoor
namespace Big
open Lib (hid)
open Go.RowKit
open Go.RowKit Go.ChangeMaps
def Uw(p:Int)(q:Nat)(n:Int)(w:World)(e:Ending)(w':World):Prop:=
 ∃v' c P Q,e= .returned (.tuple #[v',.int .i64 c])/\Aj 0 w' v' P Q/\Ext w w'/\(Ac P.natAbs).length<=100000/\(Ac Q).length<=100000/\((c=0/\LL p q n=AW P Q)\/(c=2/\LL p q n=X2.U/\P=0/\Q=0))
theorem Oc{p:Int}{L n:Nat}(h:(Ac p.natAbs).length<=32)(hn:n<=64):(Ac (p ^ n).natAbs).length<=100000:=by
 rw[Hv];have:=EH h n;have:n*32<=64*32:=Nat.mul_le_mul_right _ hn;omega
theorem Od{q n:Nat}(h:(Ac q).length<=32)(hn:n<=64):(Ac (q ^ n)).length<=100000:=by
 have:=EH h n;have:n*32<=64*32:=Nat.mul_le_mul_right _ hn;omega
theorem Tr(w:World)(v:Value)(p:Int)(q:Nat)(h:Aj 0 w v p q)(hp:(Ac p.natAbs).length<=32)(hq:(Ac q).length<=32)(n:Int)(h1: -64<=n)(h2:n<=64):Calls Tryz.prog 217 #[v,.int .i64 n] w (Uw p q n w):=by
 have aE:(Ac 0).length<=100000:=by rw[Bi];exact Nat.zero_le _
 by_cases hn:0<=n
 ·obtain⟨m,rfl⟩:=Int.eq_ofNat_of_zero_le hn;refine(Pu w v p q h.arr (by omega) (by omega) m (by omega)).mono ?_
  rintro e w' ⟨v',rfl,hi,hx⟩;exact⟨v',0,_,_,rfl,hi.low0,hx,Oc (L:=0) hp (by omega),Od hq (by omega),.inl ⟨rfl,by unfold LL;rw[if_pos hn,Int.toNat_natCast]⟩⟩
 ·by_cases hp0:p=0
  ·refine(Nl w v p q h.arr (by omega) (by omega) n h1 (by omega) hp0).mono ?_
   rintro e w' ⟨v',rfl,hi,hx⟩;exact⟨v',2,0,0,rfl,hi.low0,hx,aE,aE,.inr ⟨rfl,by unfold LL;rw[if_neg hn,if_pos hp0],rfl,rfl⟩⟩
  ·obtain⟨m,hm⟩:∃m:Nat,n= -(m:Int):=⟨n.natAbs,by omega⟩;subst hm;refine(Pv w v p q h.arr (by omega) (by omega) m (by omega) (by omega) hp0).mono ?_
   rintro e w' ⟨v',rfl,hi,hx⟩;have ba:=Ks hp hq;exact⟨v',0,_,_,rfl,hi.low0,hx,Oc (L:=0) ba.1 (by omega),Od ba.2 (by omega),.inl ⟨rfl,by unfold LL;rw[if_neg hn,if_neg hp0,Int.neg_neg,Int.toNat_natCast]⟩⟩
def Uf(p:Int)(q:Nat)(w:World)(e:Ending)(w':World):Prop:=
 ∃v' b P Q,e= .returned (.tuple #[v',.bool b])/\Aj 0 w' v' P Q/\Ext w w'/\(Ac P.natAbs).length<=100000/\(Ac Q).length<=100000/\((b=true/\sqX p q=AW P Q)\/(b=false/\sqX p q=X2.O/\P=0/\Q=0))
theorem T8{p:Int}{q:Nat}(hp:(Ac p.natAbs).length<=32)(hq:(Ac q).length<=32){w w':World}{e:Ending}(h:Gz p q w e w'):Uf p q w e w':=by
 obtain⟨v',hx,⟨r,s,rfl,rfl,rfl,hi⟩|⟨kX,rfl,hi⟩⟩:=h
 ·refine⟨v',true,r,s,rfl,hi.low0,hx,?_,?_,.inl ⟨rfl,Iy⟩⟩
  ·rw[Int.natAbs_natCast]at hp ⊢;rcases Nat.eq_zero_or_pos r with h|h
   ·subst h;rw[Bi];exact Nat.zero_le _
   ·have:=Ay (Nat.le_mul_of_pos_left r h);omega
  ·rcases Nat.eq_zero_or_pos s with h|h
   ·subst h;rw[Bi];exact Nat.zero_le _
   ·have:=Ay (Nat.le_mul_of_pos_left s h);omega
 ·exact⟨v',false,0,0,rfl,hi.low0,hx,by rw[Int.natAbs_zero,Bi];exact Nat.zero_le _,by rw[Bi];exact Nat.zero_le _,.inr ⟨rfl,Ls kX,rfl,rfl⟩⟩
structure Op4 (g:Nat) (w:World) (nc xc yc rc:Array Value):Prop where
 n:Blk w g 95 nc
 x:Blk w (g+1) 26 xc
 y:Blk w (g+2) 26 yc
 r:Blk w (g+3) 26 rc
theorem Op4.ext{g:Nat}{w w':World}{nc xc yc rc:Array Value}(h:Op4 g w nc xc yc rc)(hx:Ext w w'):Op4 g w' nc xc yc rc:=⟨h.n.ext hx,h.x.ext hx,h.y.ext hx,h.r.ext hx⟩
theorem Op4.made(w:World)(nc xc yc rc:Array Value):Op4 w.heap.size ((((w.alloc (.cells nc 95)).alloc (.cells xc 26)).alloc (.cells yc 26)).alloc (.cells rc 26)) nc xc yc rc:=by
 have h2:=(Blk.new (w.alloc (.cells nc 95)) 26 xc);have h3:=(Blk.new ((w.alloc (.cells nc 95)).alloc (.cells xc 26)) 26 yc);have h4:=(Blk.new (((w.alloc (.cells nc 95)).alloc (.cells xc 26)).alloc (.cells yc 26)) 26 rc);simp only[World.size_alloc]at h2 h3 h4;exact⟨(((Blk.new w _ nc).alloc _).alloc _).alloc _,(h2.alloc _).alloc _,h3.alloc _,h4⟩
section
variable {g:Nat} {w:World} {n0 n1 n2 n3 n4 x0 x1 x2 y0 y1 y2 r0 r1 r2:Value}
theorem Op4.cells(h:Op4 g w #[n0,n1,n2,n3,n4] #[x0,x1,x2] #[y0,y1,y2] #[r0,r1,r2]):
  (w.cell? ⟨g,0,none⟩=some n0/\w.cell? ⟨g,1,none⟩=some n1/\w.cell? ⟨g,2,none⟩=some n2/\w.cell? ⟨g,3,none⟩=some n3/\w.cell? ⟨g,4,none⟩=some n4)/\
  (w.cell? ⟨g+1,0,none⟩=some x0/\w.cell? ⟨g+1,1,none⟩=some x1/\w.cell? ⟨g+1,2,none⟩=some x2)/\(w.cell? ⟨g+2,0,none⟩=some y0/\w.cell? ⟨g+2,1,none⟩=some y1/\w.cell? ⟨g+2,2,none⟩=some y2)/\
  (w.cell? ⟨g+3,0,none⟩=some r0/\w.cell? ⟨g+3,1,none⟩=some r1/\w.cell? ⟨g+3,2,none⟩=some r2)/\(w.frozen? ⟨g+3,0,none⟩=false/\w.frozen? ⟨g+3,1,none⟩=false/\w.frozen? ⟨g+3,2,none⟩=false)/\g+3<w.heap.size:=
 ⟨⟨h.n.cell 0,h.n.cell 1,h.n.cell 2,h.n.cell 3,h.n.cell 4⟩,⟨h.x.cell 0,h.x.cell 1,h.x.cell 2⟩,⟨h.y.cell 0,h.y.cell 1,h.y.cell 2⟩,⟨h.r.cell 0,h.r.cell 1,h.r.cell 2⟩,⟨h.r.frozen 0,h.r.frozen 1,h.r.frozen 2⟩,h.r.lt⟩
theorem Op4.far{g:Nat}{w:World}{nc xc yc rc:Array Value}(h:Op4 g w nc xc yc rc){a:Addr}(ha:g+3<a.block)(u:Value):Op4 g (w.setCell a u) nc xc yc rc:=⟨h.n.far (by omega) u,h.x.far (by omega) u,h.y.far (by omega) u,h.r.far (by omega) u⟩
theorem J8:(Ac (1:Int).natAbs).length<=1000000/\(Ac 1).length<=1000000:=by
 refine⟨?_,?_⟩<;>decide+kernel
theorem Th(p:Int)(q:Nat):decide (p=(q:Int))=(Gv (p*((1:Nat):Int)) (1*(q:Int)) == 0):=by
 rw[show p*((1:Nat):Int)=p by simp,Int.one_mul];unfold Gv;by_cases h:p=(q:Int)
 ·subst h;simp
 ·rw[decide_eq_false h];split
  ·rfl
  ·split
   ·rfl
   ·omega
theorem KU.three{g:Nat}{w:World}{cs:Array Value}(hb:Blk w g 26 cs)(a b c:Value):KU w (((w.setCell ⟨g,0,none⟩ a).setCell ⟨g,1,none⟩ b).setCell ⟨g,2,none⟩ c):=by
 have ht:26≠183:=by decide
 exact((KU.set hb ht (a:=⟨g,0,none⟩) rfl a).trans (KU.set (hb.set_ 0 a) ht (a:=⟨g,1,none⟩) rfl b)).trans (KU.set ((hb.set_ 0 a).set_ 1 b) ht (a:=⟨g,2,none⟩) rfl c)
theorem Ext.three{g:Nat}{w0 w:World}(hx:Ext w0 w)(hg:w0.heap.size<=g)(a b c:Value):Ext w0 (((w.setCell ⟨g,0,none⟩ a).setCell ⟨g,1,none⟩ b).setCell ⟨g,2,none⟩ c):=
 ((hx.setCell (p:=⟨g,0,none⟩) hg a).setCell (p:=⟨g,1,none⟩) hg b).setCell (p:=⟨g,2,none⟩) hg c
end
def Lg(x:X2)(w:World)(e:Ending)(w':World):Prop:=
 ∃v' st P Q,e= .returned (.tuple #[v',.int .i64 st])/\Aj 0 w' v' P Q/\Ext w w'/\(Ac P.natAbs).length<=100000/\(Ac Q).length<=100000/\((st=1/\x=AW P Q)\/(st=2/\x=X2.U/\P=0/\Q=0)\/(st=0/\x=X2.O/\P=0/\Q=0))
noncomputable def opX(x:Nd)(p:Int)(q:Nat)(r:Int)(s:Nat):X2:=if 6<=x.kind/\x.kind<=9 then biX x.kind p q r s else unX x.kind x.n p q
theorem AA:(Ac (0:Int).natAbs).length<=100000/\(Ac 0).length<=100000/\(Ac 1).length<=100000/\(Ac (1:Int).natAbs).length<=100000:=by
 refine⟨?_,?_,?_,?_⟩<;>decide+kernel
def F1(w:World)(b:Nat)(E:List (Int × Value)):Prop:=∃es clock,w.heap[b]? =some (.map es clock)/\es.toList.map (fun e=>(e.key,e.val))=E.map fun p=>(.int .i64 p.1,p.2)
theorem F1.made(w:World):F1 (w.alloc (.map #[] 0)) w.heap.size []:=⟨#[],0,(MapKept.heap_alloc w _).1,rfl⟩
theorem El{n:Int}(hn:(Lit.int .i64 n).wf=true):keyOf Tryz.prog 3 (.int .i64 n)=some (.int .i64 n):=by
 unfold keyOf;rw[Tryz.underlying3];simp[mapKey,Tryz.underlying3,hn]
theorem Fx:Maps.Keyed Tryz.prog 3:=Maps.int_keyed Tryz.underlying3
theorem F1.keys{es:Array MapEntry}{E:List (Int × Value)}(h:es.toList.map (fun e=>(e.key,e.val))=E.map fun p=>((.int .i64 p.1:Value),p.2))(hw:∀p∈E,(Lit.int .i64 p.1).wf=true):∀e∈es.toList,∃l,keyOf Tryz.prog 3 e.key=some l:=by
 intro e he;have h2:(e.key,e.val)∈es.toList.map (fun e=>(e.key,e.val)):=List.mem_map_of_mem he;rw[h]at h2;obtain⟨p,hp,hq⟩:=List.mem_map.1 h2;rw[<-(Prod.mk.inj hq).1];exact⟨_,El (hw p hp)⟩
theorem F1.entry{es:Array MapEntry}{E:List (Int × Value)}(h:es.toList.map (fun e=>(e.key,e.val))=E.map fun p=>((.int .i64 p.1:Value),p.2)){e:MapEntry}(he:e∈es.toList):∃p∈E,e.key= .int .i64 p.1/\e.val=p.2:=by
 have h2:(e.key,e.val)∈es.toList.map (fun e=>(e.key,e.val)):=List.mem_map_of_mem he;rw[h]at h2;obtain⟨p,hp,hq⟩:=List.mem_map.1 h2;exact⟨p,hp,(Prod.mk.inj hq).1.symm,(Prod.mk.inj hq).2.symm⟩
theorem F1.store{w:World}{b:Nat}{E:List (Int × Value)}(h:F1 w b E)(hw:∀p∈E,(Lit.int .i64 p.1).wf=true)(n:Int)(val:Value)(hn:(Lit.int .i64 n).wf=true)(kX:∀p∈E,p.1≠n){t e:TypeId}(ht:Tryz.prog.underlying t=some (.map 3 e)):
  ∃w',(Instr.mapUpdate t (.map (some b)) (.int .i64 n) val).run Tryz.prog w= .ok () w'/\F1 w' b (E++[(n,val)])/\w.grownBy w' (some b):=by
 obtain⟨es,clock,hb,he⟩:=h;rcases Fx.find w (El hn) es.toList (F1.keys he hw) with ⟨h1,h2⟩|⟨j,e0,h1,h2,h3⟩
 ·refine⟨setBlock w b (.map (es.push ⟨.int .i64 n,val,clock⟩) (clock+1)),?_,⟨_,_,ChangeMaps.heap_setBlock_same hb _,?_⟩,⟨rfl,rfl,rfl,by simp[setBlock],fun i _ hi=>ChangeMaps.heap_setBlock_other hb _ (fun e=>hi (by rw[e]))⟩⟩
  ·simp[Instr.mapUpdate,run_underlying ht,MapKept.run_getObj_map hb,Fx.check w false (El hn),h1,MapKept.run_setObj_map _ hb,Result.andThen,setBlock]
  ·rw[Array.toList_push,List.map_append,he,List.map_append];rfl
 ·obtain⟨p,hp,q1,_⟩:=F1.entry he (List.mem_of_getElem? h2);rw[h3]at q1;injection q1 with _ q1
  exact absurd q1.symm (kX p hp)
theorem F1.look{w:World}{b:Nat}{E:List (Int × Value)}(h:F1 w b E)(hw:∀p∈E,(Lit.int .i64 p.1).wf=true)(n:Int)(val:Value)(hin:(n,val)∈E)(hone:∀p∈E,p.1=n->p.2=val){t e:TypeId}(ht:Tryz.prog.underlying t=some (.map 3 e)){z:Value}(hz:(zeroValue e).run Tryz.prog w= .ok z w):
  (Instr.lookup t (.map (some b)) (.int .i64 n) false).run Tryz.prog w= .ok val w:=by
 obtain⟨es,clock,hb,he⟩:=h;have hn:=hw _ hin;rcases Fx.find w (El hn) es.toList (F1.keys he hw) with ⟨h1,h2⟩|⟨j,e0,h1,h2,h3⟩
 ·have h4:((.int .i64 n:Value),val)∈es.toList.map (fun e=>(e.key,e.val)):=by rw[he];exact List.mem_map.2 ⟨_,hin,rfl⟩
  obtain⟨e,h5,h6⟩:=List.mem_map.1 h4;exact absurd (Prod.mk.inj h6).1 (h2 e h5)
 ·obtain⟨p,hp,q1,q2⟩:=F1.entry he (List.mem_of_getElem? h2);rw[h3]at q1;injection q1 with _ q1
  have h4:e0.val=val:=q2.trans (hone p hp q1.symm);clear hone hin q1 q2 he hw;simp[h4,Instr.lookup,run_underlying ht,MapKept.run_getObj_map hb,Fx.check w _ (El hn),h1,hz,Result.andThen]
theorem Iw(w:World):∃w1 w2 w3,(Instr.mapUpdate 270 (.map (some w.heap.size)) (.int .i64 6) (.func (.func 257) #[] #[])).run Tryz.prog (w.alloc (.map #[] 0))= .ok () w1/\
  (Instr.mapUpdate 270 (.map (some w.heap.size)) (.int .i64 7) (.func (.func 258) #[] #[])).run Tryz.prog w1= .ok () w2/\
  (Instr.mapUpdate 270 (.map (some w.heap.size)) (.int .i64 8) (.func (.func 253) #[] #[])).run Tryz.prog w2= .ok () w3/\
  F1 w3 w.heap.size [(6,.func (.func 257) #[] #[]),(7,.func (.func 258) #[] #[]),(8,.func (.func 253) #[] #[])]/\Ext w w3:=by
 have ht:Tryz.prog.underlying 270=some (.map 3 246):=Tryz.underlying270;obtain⟨w1,r1,m1,g1⟩:=(F1.made w).store (fun p hp=>by cases hp) 6 (.func (.func 257) #[] #[]) (by decide) (fun p hp=>by cases hp) ht;obtain⟨w2,r2,m2,g2⟩:=m1.store (fun p hp=>by simp only[List.nil_append,List.mem_singleton]at hp;rw[hp];decide) 7 (.func (.func 258) #[] #[]) (by decide) (fun p hp=>by simp only[List.nil_append,List.mem_singleton]at hp;rw[hp];decide) ht;obtain⟨w3,r3,m3,g3⟩:=m2.store (fun p hp=>by simp only[List.nil_append,List.cons_append,List.mem_cons,List.not_mem_nil,or_false]at hp;rcases hp with rfl|rfl<;>decide) 8 (.func (.func 253) #[] #[]) (by decide) (fun p hp=>by simp only[List.nil_append,List.cons_append,List.mem_cons,List.not_mem_nil,or_false]at hp;rcases hp with rfl|rfl<;>decide) ht;refine⟨w1,w2,w3,r1,r2,r3,m3,?_⟩;have hr:∀k,some w.heap.size=some k->w.heap.size<=k:=fun k hk=>by injection hk with hk;omega
 exact((((Ext.refl w).alloc (.map #[] 0)).grown g1 hr).grown g2 hr).grown g3 hr
theorem TC(w:World):Calls Tryz.prog 221 #[.int .i64 6] w fun e w'=>e= .returned (.func (.func 257) #[] #[])/\Ext w w':=by
 obtain⟨w1,w2,w3,r1,r2,r3,hm,hx⟩:=Iw w;have sh:=hm.look (fun p hp=>by simp only[List.mem_cons,List.not_mem_nil,or_false]at hp;rcases hp with rfl|rfl|rfl<;>decide) 6 (.func (.func 257) #[] #[]) (by simp) (fun p hp h=>by simp only[List.mem_cons,List.not_mem_nil,or_false]at hp;rcases hp with rfl|rfl|rfl<;>first|rfl|exact absurd h (by decide)) (t:=270) Tryz.underlying270 (z:= .nilFunc) (by kernel_rfl);have HX:=hid hx;have qo:=run_makeMap (P:=Tryz.prog);clear hm hx;go_enter Tryz.func221,Tryz.ntmps221;go_wp2_with fail;go_ret;exact⟨rfl,HX.out⟩
theorem TB(w:World):Calls Tryz.prog 221 #[.int .i64 7] w fun e w'=>e= .returned (.func (.func 258) #[] #[])/\Ext w w':=by
 obtain⟨w1,w2,w3,r1,r2,r3,hm,hx⟩:=Iw w;have sh:=hm.look (fun p hp=>by simp only[List.mem_cons,List.not_mem_nil,or_false]at hp;rcases hp with rfl|rfl|rfl<;>decide) 7 (.func (.func 258) #[] #[]) (by simp) (fun p hp h=>by simp only[List.mem_cons,List.not_mem_nil,or_false]at hp;rcases hp with rfl|rfl|rfl<;>first|rfl|exact absurd h (by decide)) (t:=270) Tryz.underlying270 (z:= .nilFunc) (by kernel_rfl);have HX:=hid hx;have qo:=run_makeMap (P:=Tryz.prog);clear hm hx;go_enter Tryz.func221,Tryz.ntmps221;go_wp2_with fail;go_ret;exact⟨rfl,HX.out⟩
theorem TA(w:World):Calls Tryz.prog 221 #[.int .i64 8] w fun e w'=>e= .returned (.func (.func 253) #[] #[])/\Ext w w':=by
 obtain⟨w1,w2,w3,r1,r2,r3,hm,hx⟩:=Iw w;have sh:=hm.look (fun p hp=>by simp only[List.mem_cons,List.not_mem_nil,or_false]at hp;rcases hp with rfl|rfl|rfl<;>decide) 8 (.func (.func 253) #[] #[]) (by simp) (fun p hp h=>by simp only[List.mem_cons,List.not_mem_nil,or_false]at hp;rcases hp with rfl|rfl|rfl<;>first|rfl|exact absurd h (by decide)) (t:=270) Tryz.underlying270 (z:= .nilFunc) (by kernel_rfl);have HX:=hid hx;have qo:=run_makeMap (P:=Tryz.prog);clear hm hx;go_enter Tryz.func221,Tryz.ntmps221;go_wp2_with fail;go_ret;exact⟨rfl,HX.out⟩
theorem Eb (w:World) (k a b n:Int) (t:Tx) (hk:5<=k/\k<=16) (dH: -64<=n) (hn2:n<=64) (kB:k≠10->n=0) (vx vy:Value) (p:Int) (q:Nat) (r:Int) (s:Nat) (hx:Aj 0 w vx p q) (lx:Low p q) (px:(Ac p.natAbs).length<=32) (qx:(Ac q).length<=32)
  (hy:Aj 0 w vy r s) (ly:Low r s) (py:(Ac r.natAbs).length<=32) (qy:(Ac s).length<=32) (fR:k=9->r≠0):
  Calls Tryz.prog 186 #[ndV ⟨k,a,b,n,t⟩,vx,vy] w (Lg (opX ⟨k,a,b,n,t⟩ p q r s) w):=by
 have kJ:=hid hx;have vQ:=hid hy;have eT:=hid (fun W v a=>CU W v p q a (by omega) (by omega));obtain⟨b0,l0,A0,c0,k0,D0,e0,rfl⟩:=hx.shape;obtain⟨b1,l1,A1,c1,k1,D1,e1,rfl⟩:=hy.shape;obtain⟨t',ht⟩:∃s:ByteArray,str t= .string s:=⟨_,rfl⟩;simp only[ndV,ht];clear hx hy ht;go_enter Tryz.func186,Tryz.ntmps186;go_wp2_with fail;have HB:=hid (Op4.made w #[.int .i64 k,.int .i64 a,.int .i64 b,.int .i64 n,.string t'] #[.bool b0,.slice A0 l0 c0,.slice D0 k0 e0] #[.bool b1,.slice A1 l1 c1,.slice D1 k1 e1] #[.bool false,.slice none 0 0,.slice none 0 0]);have HX:=hid ((((((Ext.refl w).alloc (.cells #[.int .i64 k,.int .i64 a,.int .i64 b,.int .i64 n,.string t'] 95)).alloc (.cells #[.bool b0,.slice A0 l0 c0,.slice D0 k0 e0] 26)).alloc (.cells #[.bool b1,.slice A1 l1 c1,.slice D1 k1 e1] 26)).alloc (.cells #[.bool false,.slice none 0 0,.slice none 0 0] 26)));generalize (((w.alloc (.cells #[.int .i64 k,.int .i64 a,.int .i64 b,.int .i64 n,.string t'] 95)).alloc (.cells #[.bool b0,.slice A0 l0 c0,.slice D0 k0 e0] 26)).alloc (.cells #[.bool b1,.slice A1 l1 c1,.slice D1 k1 e1] 26)).alloc (.cells #[.bool false,.slice none 0 0,.slice none 0 0] 26)=wo at *;refine(eT.out _ _ (kJ.out.arr.ext HX.out)).mono ?_
 rintro e w1 ⟨rfl,aj⟩;have HB:=hid (HB.out.ext aj);have HX:=hid (HX.out.trans aj);clear aj;obtain⟨zb,fh⟩:∃zb,(sgZ p == 0)=zb:=⟨_,rfl⟩;have xG:k=5\/k=6\/k=7\/k=8\/k=9\/k=10\/k=11\/k=12\/k=13\/k=14\/k=15\/k=16:=by omega
 rcases xG with rfl|rfl|rfl|rfl|rfl|rfl|rfl|rfl|rfl|rfl|rfl|rfl
 ·obtain⟨⟨av,bT,bS,bR,bQ⟩,⟨bI,bH,bG⟩,⟨bM,bL,bK⟩,⟨bP,bO,bN⟩,⟨bX,bW,bV⟩,bU⟩:=HB.out.cells;go_wp2_with fail;clear av bT bS bR bQ bI bH bG bM bL bK bP bO bN bX bW bV bU;refine(LZ _ _ p q (kJ.out.arr.ext HX.out) (by omega) (by omega)).mono ?_
  rintro e w2 ⟨v2,rfl,ba,ah⟩;have HB:=hid (HB.out.ext ah);have HX:=hid (HX.out.trans ah);have R2:=hid ba;obtain⟨f2,g2,G2,j2,y2,Y2,z2,rfl⟩:=ba.shape;clear ba;clear ah;obtain⟨⟨av,bT,bS,bR,bQ⟩,⟨bI,bH,bG⟩,⟨bM,bL,bK⟩,⟨bP,bO,bN⟩,⟨bX,bW,bV⟩,bU⟩:=HB.out.cells;go_wp2_with fail;obtain⟨ak,ae,hr2⟩:=Ak HB.out.r (.bool f2) (.slice G2 g2 j2) (.slice Y2 y2 z2);refine bodyPost_ret (v:= .tuple #[.agg #[.bool f2,.slice G2 g2 j2,.slice Y2 y2 z2],.int .i64 1]) (by simp[results,Tryz.results186,go_sem,ak,ae,hr2]) rfl ?_
  exact⟨_,1,_,_,rfl,R2.out.low0.ku (KU.three HB.out.r _ _ _),HX.out.three (show w.heap.size<=w.heap.size+3 by omega) _ _ _,by rw[Int.natAbs_neg];omega,by omega,.inl ⟨rfl,by simp[opX,unX]⟩⟩
 ·have cB:=MP px qx py qy;have hne:∀W,(binOp .neq 246 (.func (.func 257) #[] #[]) .nilFunc).run Tryz.prog W= .ok (.bool true) W:=fun W=>by kernel_rfl
  obtain⟨⟨av,bT,bS,bR,bQ⟩,⟨bI,bH,bG⟩,⟨bM,bL,bK⟩,⟨bP,bO,bN⟩,⟨bX,bW,bV⟩,bU⟩:=HB.out.cells;go_wp2_with fail;clear av bT bS bR bQ bI bH bG bM bL bK bP bO bN bX bW bV bU;refine(TC _).mono ?_
  rintro e w2 ⟨rfl,ah⟩;have HB:=hid (HB.out.ext ah);have HX:=hid (HX.out.trans ah);clear ah;obtain⟨⟨av,bT,bS,bR,bQ⟩,⟨bI,bH,bG⟩,⟨bM,bL,bK⟩,⟨bP,bO,bN⟩,⟨bX,bW,bV⟩,bU⟩:=HB.out.cells;go_wp2_with fail;clear av bT bS bR bQ bI bH bG bM bL bK bP bO bN bX bW bV bU;refine(Mw _ _ p q (kJ.out.arr.ext HX.out) (by omega) (by omega) _ r s (vQ.out.arr.ext HX.out) (by omega) (by omega) lx.1 ly.1).mono ?_
  rintro e w3 ⟨v3,rfl,dn,ah⟩;have HB:=hid (HB.out.ext ah);have HX:=hid (HX.out.trans ah);have R3:=hid dn;obtain⟨f3,g3,G3,j3,y3,Y3,z3,rfl⟩:=dn.shape;clear dn;clear ah;obtain⟨⟨av,bT,bS,bR,bQ⟩,⟨bI,bH,bG⟩,⟨bM,bL,bK⟩,⟨bP,bO,bN⟩,⟨bX,bW,bV⟩,bU⟩:=HB.out.cells;go_wp2_with fail;obtain⟨ak,ae,hr2⟩:=Ak HB.out.r (.bool f3) (.slice G3 g3 j3) (.slice Y3 y3 z3);refine bodyPost_ret (v:= .tuple #[.agg #[.bool f3,.slice G3 g3 j3,.slice Y3 y3 z3],.int .i64 1]) (by simp[results,Tryz.results186,go_sem,ak,ae,hr2]) rfl ?_
  exact⟨_,1,_,_,rfl,R3.out.low0.ku (KU.three HB.out.r _ _ _),HX.out.three (show w.heap.size<=w.heap.size+3 by omega) _ _ _,by omega,by omega,.inl ⟨rfl,by simp[opX,biX]⟩⟩
 ·have cB:=MP px qx (QB py) qy;have hne:∀W,(binOp .neq 246 (.func (.func 258) #[] #[]) .nilFunc).run Tryz.prog W= .ok (.bool true) W:=fun W=>by kernel_rfl
  obtain⟨⟨av,bT,bS,bR,bQ⟩,⟨bI,bH,bG⟩,⟨bM,bL,bK⟩,⟨bP,bO,bN⟩,⟨bX,bW,bV⟩,bU⟩:=HB.out.cells;go_wp2_with fail;clear av bT bS bR bQ bI bH bG bM bL bK bP bO bN bX bW bV bU;refine(TB _).mono ?_
  rintro e w2 ⟨rfl,ah⟩;have HB:=hid (HB.out.ext ah);have HX:=hid (HX.out.trans ah);clear ah;obtain⟨⟨av,bT,bS,bR,bQ⟩,⟨bI,bH,bG⟩,⟨bM,bL,bK⟩,⟨bP,bO,bN⟩,⟨bX,bW,bV⟩,bU⟩:=HB.out.cells;go_wp2_with fail;clear av bT bS bR bQ bI bH bG bM bL bK bP bO bN bX bW bV bU;refine(QH _ _ p q (kJ.out.arr.ext HX.out) (by omega) (by omega) _ r s (vQ.out.arr.ext HX.out) (by omega) (by omega) lx.1 ly.1).mono ?_
  rintro e w3 ⟨v3,rfl,dn,ah⟩;have HB:=hid (HB.out.ext ah);have HX:=hid (HX.out.trans ah);have R3:=hid dn;obtain⟨f3,g3,G3,j3,y3,Y3,z3,rfl⟩:=dn.shape;clear dn;clear ah;obtain⟨⟨av,bT,bS,bR,bQ⟩,⟨bI,bH,bG⟩,⟨bM,bL,bK⟩,⟨bP,bO,bN⟩,⟨bX,bW,bV⟩,bU⟩:=HB.out.cells;go_wp2_with fail;obtain⟨ak,ae,hr2⟩:=Ak HB.out.r (.bool f3) (.slice G3 g3 j3) (.slice Y3 y3 z3);refine bodyPost_ret (v:= .tuple #[.agg #[.bool f3,.slice G3 g3 j3,.slice Y3 y3 z3],.int .i64 1]) (by simp[results,Tryz.results186,go_sem,ak,ae,hr2]) rfl ?_
  exact⟨_,1,_,_,rfl,R3.out.low0.ku (KU.three HB.out.r _ _ _),HX.out.three (show w.heap.size<=w.heap.size+3 by omega) _ _ _,by omega,by omega,.inl ⟨rfl,by simp[opX,biX]⟩⟩
 ·have cB:=QC px qx py qy;have hne:∀W,(binOp .neq 246 (.func (.func 253) #[] #[]) .nilFunc).run Tryz.prog W= .ok (.bool true) W:=fun W=>by kernel_rfl
  obtain⟨⟨av,bT,bS,bR,bQ⟩,⟨bI,bH,bG⟩,⟨bM,bL,bK⟩,⟨bP,bO,bN⟩,⟨bX,bW,bV⟩,bU⟩:=HB.out.cells;go_wp2_with fail;clear av bT bS bR bQ bI bH bG bM bL bK bP bO bN bX bW bV bU;refine(TA _).mono ?_
  rintro e w2 ⟨rfl,ah⟩;have HB:=hid (HB.out.ext ah);have HX:=hid (HX.out.trans ah);clear ah;obtain⟨⟨av,bT,bS,bR,bQ⟩,⟨bI,bH,bG⟩,⟨bM,bL,bK⟩,⟨bP,bO,bN⟩,⟨bX,bW,bV⟩,bU⟩:=HB.out.cells;go_wp2_with fail;clear av bT bS bR bQ bI bH bG bM bL bK bP bO bN bX bW bV bU;refine(L1 _ _ p q (kJ.out.arr.ext HX.out) (by omega) (by omega) _ r s (vQ.out.arr.ext HX.out) (by omega) (by omega) lx.1 ly.1).mono ?_
  rintro e w3 ⟨v3,rfl,dn,ah⟩;have HB:=hid (HB.out.ext ah);have HX:=hid (HX.out.trans ah);have R3:=hid dn;obtain⟨f3,g3,G3,j3,y3,Y3,z3,rfl⟩:=dn.shape;clear dn;clear ah;obtain⟨⟨av,bT,bS,bR,bQ⟩,⟨bI,bH,bG⟩,⟨bM,bL,bK⟩,⟨bP,bO,bN⟩,⟨bX,bW,bV⟩,bU⟩:=HB.out.cells;go_wp2_with fail;obtain⟨ak,ae,hr2⟩:=Ak HB.out.r (.bool f3) (.slice G3 g3 j3) (.slice Y3 y3 z3);refine bodyPost_ret (v:= .tuple #[.agg #[.bool f3,.slice G3 g3 j3,.slice Y3 y3 z3],.int .i64 1]) (by simp[results,Tryz.results186,go_sem,ak,ae,hr2]) rfl ?_
  exact⟨_,1,_,_,rfl,R3.out.low0.ku (KU.three HB.out.r _ _ _),HX.out.three (show w.heap.size<=w.heap.size+3 by omega) _ _ _,by omega,by omega,.inl ⟨rfl,by simp[opX,biX]⟩⟩
 ·obtain rfl:n=0:=kB (by decide);clear kB;have hr:=fR rfl;clear fR;have cB:=QC px qx (Ks py qy).1 (Ks py qy).2;obtain⟨⟨av,bT,bS,bR,bQ⟩,⟨bI,bH,bG⟩,⟨bM,bL,bK⟩,⟨bP,bO,bN⟩,⟨bX,bW,bV⟩,bU⟩:=HB.out.cells;go_wp2_with fail;clear av bT bS bR bQ bI bH bG bM bL bK bP bO bN bX bW bV bU;refine(Tr _ _ p q (kJ.out.ext HX.out) px qx 0 (by decide) (by decide)).mono ?_
  rintro e w2 ⟨v2,c2,P,Q,rfl,ba,ah,hP,hQ,iZ⟩;have HB:=hid (HB.out.ext ah);have HX:=hid (HX.out.trans ah);have R2:=hid ba;obtain⟨f2,g2,G2,j2,y2,Y2,z2,rfl⟩:=ba.shape;clear ba;clear ah;clear hP hQ iZ;obtain⟨⟨av,bT,bS,bR,bQ⟩,⟨bI,bH,bG⟩,⟨bM,bL,bK⟩,⟨bP,bO,bN⟩,⟨bX,bW,bV⟩,bU⟩:=HB.out.cells;go_upto_region 11 with fail;clear av bT bS bR bQ bI bH bG bM bL bK bP bO bN bX bW bV bU;have fc:=HB.out.r.lt;have hb:=Blk.new w2 26 #[.bool f2,.slice G2 g2 j2,.slice Y2 y2 z2];have fj:=(Ext.refl w2).alloc (.cells #[.bool f2,.slice G2 g2 j2,.slice Y2 y2 z2] 26);generalize w2.alloc (.cells #[.bool f2,.slice G2 g2 j2,.slice Y2 y2 z2] 26)=wa at *;have eF:=hid hb;have HB:=hid (HB.out.ext fj);have HX:=hid (HX.out.trans fj);have R2:=hid (R2.out.ext fj);have nU:=hid fc;generalize w2.heap.size=ap at *;clear hb fj fc;obtain⟨⟨av,bT,bS,bR,bQ⟩,⟨bI,bH,bG⟩,⟨bM,bL,bK⟩,⟨bP,bO,bN⟩,⟨bX,bW,bV⟩,bU⟩:=HB.out.cells;have jo:=eF.out.three;go_wp2_with fail;clear av bT bS bR bQ bI bH bG bM bL bK bP bO bN bX bW bV bU;refine(RR _ _ p q (kJ.out.arr.ext HX.out) (by omega) (by omega) _ r s (vQ.out.arr.ext HX.out) (by omega) (by omega) lx.1 hr).mono ?_
  rintro e w4 ⟨v4,rfl,i8,ah⟩;have HB:=hid (HB.out.ext ah);have HX:=hid (HX.out.trans ah);have R4:=hid i8;obtain⟨f4,g4,G4,j4,y4,Y4,z4,rfl⟩:=i8.shape;clear i8;have eF:=hid (eF.out.ext ah);clear ah;clear jo;obtain⟨⟨av,bT,bS,bR,bQ⟩,⟨bI,bH,bG⟩,⟨bM,bL,bK⟩,⟨bP,bO,bN⟩,⟨bX,bW,bV⟩,bU⟩:=HB.out.cells;have jo:=eF.out.three;go_upto_region 13 with fail;have hpb:=((eF.out.set_ 0 (.bool f4)).set_ 1 (.slice G4 g4 j4)).set_ 2 (.slice Y4 y4 z4);have dZ:=((HB.out.far (a:=⟨ap,0,none⟩) nU.out (.bool f4)).far (a:=⟨ap,1,none⟩) nU.out (.slice G4 g4 j4)).far (a:=⟨ap,2,none⟩) nU.out (.slice Y4 y4 z4);have ob:=R4.out.low0.ku (KU.three eF.out (.bool f4) (.slice G4 g4 j4) (.slice Y4 y4 z4));have bF:=HX.out.three (g:=ap) (by have:=nU.out;omega) (.bool f4) (.slice G4 g4 j4) (.slice Y4 y4 z4);generalize ((w4.setCell ⟨ap,0,none⟩ (.bool f4)).setCell ⟨ap,1,none⟩ (.slice G4 g4 j4)).setCell ⟨ap,2,none⟩ (.slice Y4 y4 z4)=w5 at *;have eF:=hid hpb;have HB:=hid dZ;have R4:=hid ob;have HX:=hid bF;clear hpb dZ ob bF jo;clear av bT bS bR bQ bI bH bG bM bL bK bP bO bN bX bW bV bU;have jo:=eF.out.three;obtain⟨⟨av,bT,bS,bR,bQ⟩,⟨bI,bH,bG⟩,⟨bM,bL,bK⟩,⟨bP,bO,bN⟩,⟨bX,bW,bV⟩,bU⟩:=HB.out.cells;go_wp2_with fail;obtain⟨ak,ae,hr2⟩:=Ak HB.out.r (.bool f4) (.slice G4 g4 j4) (.slice Y4 y4 z4);refine bodyPost_ret (v:= .tuple #[.agg #[.bool f4,.slice G4 g4 j4,.slice Y4 y4 z4],.int .i64 1]) (by simp[results,Tryz.results186,go_sem,ak,ae,hr2]) rfl ?_
  exact⟨_,1,_,_,rfl,R4.out.low0.ku (KU.three HB.out.r _ _ _),HX.out.three (show w.heap.size<=w.heap.size+3 by omega) _ _ _,by omega,by omega,.inl ⟨rfl,by simp[opX,biX,hr]⟩⟩
 ·clear kB;obtain⟨⟨av,bT,bS,bR,bQ⟩,⟨bI,bH,bG⟩,⟨bM,bL,bK⟩,⟨bP,bO,bN⟩,⟨bX,bW,bV⟩,bU⟩:=HB.out.cells;go_wp2_with fail;clear av bT bS bR bQ bI bH bG bM bL bK bP bO bN bX bW bV bU;refine(Tr _ _ p q (kJ.out.ext HX.out) px qx n dH hn2).mono ?_
  rintro e w2 ⟨v2,c2,P,Q,rfl,ba,ah,hP,hQ,iZ⟩;have HB:=hid (HB.out.ext ah);have HX:=hid (HX.out.trans ah);have R2:=hid ba;obtain⟨f2,g2,G2,j2,y2,Y2,z2,rfl⟩:=ba.shape;clear ba;clear ah;go_upto_region 11 with fail;have fc:=HB.out.r.lt;have hb:=Blk.new w2 26 #[.bool f2,.slice G2 g2 j2,.slice Y2 y2 z2];have fj:=(Ext.refl w2).alloc (.cells #[.bool f2,.slice G2 g2 j2,.slice Y2 y2 z2] 26);generalize w2.alloc (.cells #[.bool f2,.slice G2 g2 j2,.slice Y2 y2 z2] 26)=wa at *;have eF:=hid hb;have HB:=hid (HB.out.ext fj);have HX:=hid (HX.out.trans fj);have R2:=hid (R2.out.ext fj);have nU:=hid fc;generalize w2.heap.size=ap at *;clear hb fj fc;rcases iZ with ⟨rfl,iZ⟩|⟨rfl,iZ,rfl,rfl⟩
  ·have jo:=eF.out.three;obtain⟨⟨av,bT,bS,bR,bQ⟩,⟨bI,bH,bG⟩,⟨bM,bL,bK⟩,⟨bP,bO,bN⟩,⟨bX,bW,bV⟩,bU⟩:=HB.out.cells;go_wp2_with fail;obtain⟨ak,ae,hr2⟩:=Ak HB.out.r (.bool f2) (.slice G2 g2 j2) (.slice Y2 y2 z2);refine bodyPost_ret (v:= .tuple #[.agg #[.bool f2,.slice G2 g2 j2,.slice Y2 y2 z2],.int .i64 1]) (by simp[results,Tryz.results186,go_sem,ak,ae,hr2]) rfl ?_
   exact⟨_,1,_,_,rfl,R2.out.low0.ku (KU.three HB.out.r _ _ _),HX.out.three (show w.heap.size<=w.heap.size+3 by omega) _ _ _,hP,hQ,.inl ⟨rfl,by simp[opX,unX,iZ]⟩⟩
  ·have jo:=eF.out.three;obtain⟨⟨av,bT,bS,bR,bQ⟩,⟨bI,bH,bG⟩,⟨bM,bL,bK⟩,⟨bP,bO,bN⟩,⟨bX,bW,bV⟩,bU⟩:=HB.out.cells;go_wp2_with fail;obtain⟨ak,ae,hr2⟩:=Ak HB.out.r (.bool false) (.slice none 0 0) (.slice none 0 0);refine bodyPost_ret (v:= .tuple #[.agg #[.bool false,.slice none 0 0,.slice none 0 0],.int .i64 2]) (by simp[results,Tryz.results186,go_sem,ak,ae,hr2]) rfl ?_
   exact⟨_,2,_,_,rfl,Aj.zero _ _,HX.out.three (show w.heap.size<=w.heap.size+3 by omega) _ _ _,AA.1,AA.2.1,.inr (.inl ⟨rfl,by simp[opX,unX,iZ],rfl,rfl⟩)⟩
 ·by_cases hp:p<0
  ·have hs:sgZ p= -1:=if_pos hp;rw[hs]at eT;obtain⟨⟨av,bT,bS,bR,bQ⟩,⟨bI,bH,bG⟩,⟨bM,bL,bK⟩,⟨bP,bO,bN⟩,⟨bX,bW,bV⟩,bU⟩:=HB.out.cells;go_wp2_with fail;clear av bT bS bR bQ bI bH bG bM bL bK bP bO bN bX bW bV bU;refine(eT.out _ _ (kJ.out.arr.ext HX.out)).mono ?_
   rintro e w2 ⟨rfl,ah⟩;have HB:=hid (HB.out.ext ah);have HX:=hid (HX.out.trans ah);clear ah;obtain⟨⟨av,bT,bS,bR,bQ⟩,⟨bI,bH,bG⟩,⟨bM,bL,bK⟩,⟨bP,bO,bN⟩,⟨bX,bW,bV⟩,bU⟩:=HB.out.cells;go_wp2_with fail;obtain⟨ak,ae,hr2⟩:=Ak HB.out.r (.bool false) (.slice none 0 0) (.slice none 0 0);refine bodyPost_ret (v:= .tuple #[.agg #[.bool false,.slice none 0 0,.slice none 0 0],.int .i64 2]) (by simp[results,Tryz.results186,go_sem,ak,ae,hr2]) rfl ?_
   exact⟨_,2,_,_,rfl,Aj.zero _ _,HX.out.three (show w.heap.size<=w.heap.size+3 by omega) _ _ _,AA.1,AA.2.1,.inr (.inl ⟨rfl,by simp[opX,unX,hp],rfl,rfl⟩)⟩
  ·have hs:decide (sgZ p<0)=false:=decide_eq_false (by unfold sgZ;split<;>(try split)<;>omega);obtain⟨⟨av,bT,bS,bR,bQ⟩,⟨bI,bH,bG⟩,⟨bM,bL,bK⟩,⟨bP,bO,bN⟩,⟨bX,bW,bV⟩,bU⟩:=HB.out.cells;go_wp2_with fail;clear av bT bS bR bQ bI bH bG bM bL bK bP bO bN bX bW bV bU;refine(eT.out _ _ (kJ.out.arr.ext HX.out)).mono ?_
   rintro e w2 ⟨rfl,ah⟩;have HB:=hid (HB.out.ext ah);have HX:=hid (HX.out.trans ah);clear ah;obtain⟨⟨av,bT,bS,bR,bQ⟩,⟨bI,bH,bG⟩,⟨bM,bL,bK⟩,⟨bP,bO,bN⟩,⟨bX,bW,bV⟩,bU⟩:=HB.out.cells;go_wp2_with fail;clear av bT bS bR bQ bI bH bG bM bL bK bP bO bN bX bW bV bU;refine((OX _ _ p q (kJ.out.arr.ext HX.out) (by omega) (by omega)).mono (fun _ _ h=>T8 px qx h)).mono ?_
   rintro e w3 ⟨v3,bb,P,Q,rfl,dn,ah,hP,hQ,iZ⟩;have HB:=hid (HB.out.ext ah);have HX:=hid (HX.out.trans ah);have R3:=hid dn;obtain⟨f3,g3,G3,j3,y3,Y3,z3,rfl⟩:=dn.shape;clear dn;clear ah;obtain⟨⟨av,bT,bS,bR,bQ⟩,⟨bI,bH,bG⟩,⟨bM,bL,bK⟩,⟨bP,bO,bN⟩,⟨bX,bW,bV⟩,bU⟩:=HB.out.cells;go_upto_region 20 with fail;clear av bT bS bR bQ bI bH bG bM bL bK bP bO bN bX bW bV bU;have fc:=HB.out.r.lt;have hb:=Blk.new w3 26 #[.bool f3,.slice G3 g3 j3,.slice Y3 y3 z3];have fj:=(Ext.refl w3).alloc (.cells #[.bool f3,.slice G3 g3 j3,.slice Y3 y3 z3] 26);generalize w3.alloc (.cells #[.bool f3,.slice G3 g3 j3,.slice Y3 y3 z3] 26)=wa at *;have eF:=hid hb;have HB:=hid (HB.out.ext fj);have HX:=hid (HX.out.trans fj);have R3:=hid (R3.out.ext fj);have nU:=hid fc;generalize w3.heap.size=ap at *;clear hb fj fc;rcases iZ with ⟨rfl,iZ⟩|⟨rfl,iZ,rfl,rfl⟩
   ·have jo:=eF.out.three;obtain⟨⟨av,bT,bS,bR,bQ⟩,⟨bI,bH,bG⟩,⟨bM,bL,bK⟩,⟨bP,bO,bN⟩,⟨bX,bW,bV⟩,bU⟩:=HB.out.cells;go_wp2_with fail;obtain⟨ak,ae,hr2⟩:=Ak HB.out.r (.bool f3) (.slice G3 g3 j3) (.slice Y3 y3 z3);refine bodyPost_ret (v:= .tuple #[.agg #[.bool f3,.slice G3 g3 j3,.slice Y3 y3 z3],.int .i64 1]) (by simp[results,Tryz.results186,go_sem,ak,ae,hr2]) rfl ?_
    exact⟨_,1,_,_,rfl,R3.out.low0.ku (KU.three HB.out.r _ _ _),HX.out.three (show w.heap.size<=w.heap.size+3 by omega) _ _ _,hP,hQ,.inl ⟨rfl,by simp[opX,unX,iZ];intro h;omega⟩⟩
   ·have jo:=eF.out.three;obtain⟨⟨av,bT,bS,bR,bQ⟩,⟨bI,bH,bG⟩,⟨bM,bL,bK⟩,⟨bP,bO,bN⟩,⟨bX,bW,bV⟩,bU⟩:=HB.out.cells;go_wp2_with fail;obtain⟨ak,ae,hr2⟩:=Ak HB.out.r (.bool false) (.slice none 0 0) (.slice none 0 0);refine bodyPost_ret (v:= .tuple #[.agg #[.bool false,.slice none 0 0,.slice none 0 0],.int .i64 0]) (by simp[results,Tryz.results186,go_sem,ak,ae,hr2]) rfl ?_
    exact⟨_,0,_,_,rfl,Aj.zero _ _,HX.out.three (show w.heap.size<=w.heap.size+3 by omega) _ _ _,AA.1,AA.2.1,.inr (.inr ⟨rfl,by simp[opX,unX,iZ];intro h;omega,rfl,rfl⟩)⟩
 ·cases zb
  ·have hp:p≠0:=by rintro rfl;simp[sgZ]at fh
   obtain⟨⟨av,bT,bS,bR,bQ⟩,⟨bI,bH,bG⟩,⟨bM,bL,bK⟩,⟨bP,bO,bN⟩,⟨bX,bW,bV⟩,bU⟩:=HB.out.cells;go_wp2_with fail;obtain⟨ak,ae,hr2⟩:=Ak HB.out.r (.bool false) (.slice none 0 0) (.slice none 0 0);refine bodyPost_ret (v:= .tuple #[.agg #[.bool false,.slice none 0 0,.slice none 0 0],.int .i64 0]) (by simp[results,Tryz.results186,go_sem,ak,ae,hr2]) rfl ?_
   exact⟨_,0,_,_,rfl,Aj.zero _ _,HX.out.three (show w.heap.size<=w.heap.size+3 by omega) _ _ _,AA.1,AA.2.1,.inr (.inr ⟨rfl,by simp[opX,unX,hp],rfl,rfl⟩)⟩
  ·have hp:p=0:=by unfold sgZ at fh;split at fh<;>(try split at fh)<;>first|omega|(simp at fh)
   obtain⟨⟨av,bT,bS,bR,bQ⟩,⟨bI,bH,bG⟩,⟨bM,bL,bK⟩,⟨bP,bO,bN⟩,⟨bX,bW,bV⟩,bU⟩:=HB.out.cells;go_wp2_with fail;clear av bT bS bR bQ bI bH bG bM bL bK bP bO bN bX bW bV bU;refine(DM _ 1 (by decide) (by decide)).mono ?_
   rintro e w2 ⟨v2,rfl,ba,ah⟩;have HB:=hid (HB.out.ext ah);have HX:=hid (HX.out.trans ah);have R2:=hid ba;obtain⟨f2,g2,G2,j2,y2,Y2,z2,rfl⟩:=ba.shape;clear ba;clear ah;obtain⟨⟨av,bT,bS,bR,bQ⟩,⟨bI,bH,bG⟩,⟨bM,bL,bK⟩,⟨bP,bO,bN⟩,⟨bX,bW,bV⟩,bU⟩:=HB.out.cells;go_wp2_with fail;obtain⟨ak,ae,hr2⟩:=Ak HB.out.r (.bool f2) (.slice G2 g2 j2) (.slice Y2 y2 z2);refine bodyPost_ret (v:= .tuple #[.agg #[.bool f2,.slice G2 g2 j2,.slice Y2 y2 z2],.int .i64 1]) (by simp[results,Tryz.results186,go_sem,ak,ae,hr2]) rfl ?_
   exact⟨_,1,_,_,rfl,R2.out.low0.ku (KU.three HB.out.r _ _ _),HX.out.three (show w.heap.size<=w.heap.size+3 by omega) _ _ _,AA.2.2.2,AA.2.2.1,.inl ⟨rfl,by simp[opX,unX,hp]⟩⟩
 ·by_cases hp:p<=0
  ·have hs:decide (sgZ p<=0)=true:=decide_eq_true (by unfold sgZ;split<;>(try split)<;>omega);obtain⟨⟨av,bT,bS,bR,bQ⟩,⟨bI,bH,bG⟩,⟨bM,bL,bK⟩,⟨bP,bO,bN⟩,⟨bX,bW,bV⟩,bU⟩:=HB.out.cells;go_wp2_with fail;clear av bT bS bR bQ bI bH bG bM bL bK bP bO bN bX bW bV bU;refine(eT.out _ _ (kJ.out.arr.ext HX.out)).mono ?_
   rintro e w2 ⟨rfl,ah⟩;have HB:=hid (HB.out.ext ah);have HX:=hid (HX.out.trans ah);clear ah;obtain⟨⟨av,bT,bS,bR,bQ⟩,⟨bI,bH,bG⟩,⟨bM,bL,bK⟩,⟨bP,bO,bN⟩,⟨bX,bW,bV⟩,bU⟩:=HB.out.cells;go_wp2_with fail;obtain⟨ak,ae,hr2⟩:=Ak HB.out.r (.bool false) (.slice none 0 0) (.slice none 0 0);refine bodyPost_ret (v:= .tuple #[.agg #[.bool false,.slice none 0 0,.slice none 0 0],.int .i64 2]) (by simp[results,Tryz.results186,go_sem,ak,ae,hr2]) rfl ?_
   exact⟨_,2,_,_,rfl,Aj.zero _ _,HX.out.three (show w.heap.size<=w.heap.size+3 by omega) _ _ _,AA.1,AA.2.1,.inr (.inl ⟨rfl,by simp[opX,unX,hp],rfl,rfl⟩)⟩
  ·have hs:decide (sgZ p<=0)=false:=decide_eq_false (by unfold sgZ;split<;>(try split)<;>omega);obtain⟨⟨av,bT,bS,bR,bQ⟩,⟨bI,bH,bG⟩,⟨bM,bL,bK⟩,⟨bP,bO,bN⟩,⟨bX,bW,bV⟩,bU⟩:=HB.out.cells;go_wp2_with fail;clear av bT bS bR bQ bI bH bG bM bL bK bP bO bN bX bW bV bU;refine(eT.out _ _ (kJ.out.arr.ext HX.out)).mono ?_
   rintro e w2 ⟨rfl,ah⟩;have HB:=hid (HB.out.ext ah);have HX:=hid (HX.out.trans ah);clear ah;have cJ:=hid (fun W v u a b=>RU W v p q a (by omega) (by omega) u 1 1 b J8.1 J8.2);have oQ:=hid (Th p q);obtain⟨cb,oA⟩:∃cb,(Gv (p*((1:Nat):Int)) (1*(q:Int)) == 0)=cb:=⟨_,rfl⟩;rw[oA]at oQ;generalize Gv (p*((1:Nat):Int)) (1*(q:Int))=cz at *;obtain⟨⟨av,bT,bS,bR,bQ⟩,⟨bI,bH,bG⟩,⟨bM,bL,bK⟩,⟨bP,bO,bN⟩,⟨bX,bW,bV⟩,bU⟩:=HB.out.cells;go_upto_region 25 with fail
   go_region_held3 (fun w'=>Ext w2 w'/\w'.cell? ⟨w.heap.size+1,0,none⟩=some (.bool b0)/\w'.cell? ⟨w.heap.size+1,1,none⟩=some (.slice A0 l0 c0)/\w'.cell? ⟨w.heap.size+1,2,none⟩=some (.slice D0 k0 e0))
   (first|(exact⟨(Ext.refl w2).drew,bI,bH,bG⟩)|(exact Jb (by assumption) (by assumption)))
   (first
    |(go_at_call 220;have X6:=oX;refine(cJ.out _ _ _ ((kJ.out.arr.ext HX.out).ext (And.left (by assumption))) R3.out.arr).mono ?_;rintro e w4 ⟨rfl,bD⟩;have sN:=bD.size)
    |(go_at_call 184;refine(DM _ 1 (by decide) (by decide)).mono ?_;rintro e w3 ⟨v3,rfl,dn,ab⟩;have oX:=ab.size;have R3:=hid dn;obtain⟨f3,g3,G3,j3,y3,Y3,z3,rfl⟩:=dn.shape;clear dn))
   rename_i hS;have HB:=hid (HB.out.ext hS.1);have HX:=hid (HX.out.trans hS.1);cases cb
   ·have he:p≠(q:Int):=of_decide_eq_false oQ.out;clear av bT bS bR bQ bI bH bG bM bL bK bP bO bN bX bW bV bU;obtain⟨⟨av,bT,bS,bR,bQ⟩,⟨bI,bH,bG⟩,⟨bM,bL,bK⟩,⟨bP,bO,bN⟩,⟨bX,bW,bV⟩,bU⟩:=HB.out.cells;go_wp2_with fail;obtain⟨ak,ae,hr2⟩:=Ak HB.out.r (.bool false) (.slice none 0 0) (.slice none 0 0);refine bodyPost_ret (v:= .tuple #[.agg #[.bool false,.slice none 0 0,.slice none 0 0],.int .i64 0]) (by simp[results,Tryz.results186,go_sem,ak,ae,hr2]) rfl ?_
    exact⟨_,0,_,_,rfl,Aj.zero _ _,HX.out.three (show w.heap.size<=w.heap.size+3 by omega) _ _ _,AA.1,AA.2.1,.inr (.inr ⟨rfl,by simp[opX,unX,he];intro h;omega,rfl,rfl⟩)⟩
   ·have he:p=(q:Int):=of_decide_eq_true oQ.out;clear av bT bS bR bQ bI bH bG bM bL bK bP bO bN bX bW bV bU;obtain⟨⟨av,bT,bS,bR,bQ⟩,⟨bI,bH,bG⟩,⟨bM,bL,bK⟩,⟨bP,bO,bN⟩,⟨bX,bW,bV⟩,bU⟩:=HB.out.cells;go_wp2_with fail;clear av bT bS bR bQ bI bH bG bM bL bK bP bO bN bX bW bV bU;refine(DM _ 0 (by decide) (by decide)).mono ?_
    rintro e w5 ⟨v5,rfl,eB,ah⟩;have HB:=hid (HB.out.ext ah);have HX:=hid (HX.out.trans ah);have R5:=hid eB;obtain⟨f5,g5,G5,j5,y5,Y5,z5,rfl⟩:=eB.shape;clear eB;clear ah;obtain⟨⟨av,bT,bS,bR,bQ⟩,⟨bI,bH,bG⟩,⟨bM,bL,bK⟩,⟨bP,bO,bN⟩,⟨bX,bW,bV⟩,bU⟩:=HB.out.cells;go_wp2_with fail;obtain⟨ak,ae,hr2⟩:=Ak HB.out.r (.bool f5) (.slice G5 g5 j5) (.slice Y5 y5 z5);refine bodyPost_ret (v:= .tuple #[.agg #[.bool f5,.slice G5 g5 j5,.slice Y5 y5 z5],.int .i64 1]) (by simp[results,Tryz.results186,go_sem,ak,ae,hr2]) rfl ?_
    exact⟨_,1,_,_,rfl,R5.out.low0.ku (KU.three HB.out.r _ _ _),HX.out.three (show w.heap.size<=w.heap.size+3 by omega) _ _ _,AA.1,AA.2.2.1,.inl ⟨rfl,by simp[opX,unX,he];intro h;omega⟩⟩
 ·cases zb
  ·have hp:p≠0:=by rintro rfl;simp[sgZ]at fh
   obtain⟨⟨av,bT,bS,bR,bQ⟩,⟨bI,bH,bG⟩,⟨bM,bL,bK⟩,⟨bP,bO,bN⟩,⟨bX,bW,bV⟩,bU⟩:=HB.out.cells;go_wp2_with fail;obtain⟨ak,ae,hr2⟩:=Ak HB.out.r (.bool false) (.slice none 0 0) (.slice none 0 0);refine bodyPost_ret (v:= .tuple #[.agg #[.bool false,.slice none 0 0,.slice none 0 0],.int .i64 0]) (by simp[results,Tryz.results186,go_sem,ak,ae,hr2]) rfl ?_
   exact⟨_,0,_,_,rfl,Aj.zero _ _,HX.out.three (show w.heap.size<=w.heap.size+3 by omega) _ _ _,AA.1,AA.2.1,.inr (.inr ⟨rfl,by simp[opX,unX,hp],rfl,rfl⟩)⟩
  ·have hp:p=0:=by unfold sgZ at fh;split at fh<;>(try split at fh)<;>first|omega|(simp at fh)
   obtain⟨⟨av,bT,bS,bR,bQ⟩,⟨bI,bH,bG⟩,⟨bM,bL,bK⟩,⟨bP,bO,bN⟩,⟨bX,bW,bV⟩,bU⟩:=HB.out.cells;go_wp2_with fail;clear av bT bS bR bQ bI bH bG bM bL bK bP bO bN bX bW bV bU;refine(DM _ 0 (by decide) (by decide)).mono ?_
   rintro e w2 ⟨v2,rfl,ba,ah⟩;have HB:=hid (HB.out.ext ah);have HX:=hid (HX.out.trans ah);have R2:=hid ba;obtain⟨f2,g2,G2,j2,y2,Y2,z2,rfl⟩:=ba.shape;clear ba;clear ah;obtain⟨⟨av,bT,bS,bR,bQ⟩,⟨bI,bH,bG⟩,⟨bM,bL,bK⟩,⟨bP,bO,bN⟩,⟨bX,bW,bV⟩,bU⟩:=HB.out.cells;go_wp2_with fail;obtain⟨ak,ae,hr2⟩:=Ak HB.out.r (.bool f2) (.slice G2 g2 j2) (.slice Y2 y2 z2);refine bodyPost_ret (v:= .tuple #[.agg #[.bool f2,.slice G2 g2 j2,.slice Y2 y2 z2],.int .i64 1]) (by simp[results,Tryz.results186,go_sem,ak,ae,hr2]) rfl ?_
   exact⟨_,1,_,_,rfl,R2.out.low0.ku (KU.three HB.out.r _ _ _),HX.out.three (show w.heap.size<=w.heap.size+3 by omega) _ _ _,AA.1,AA.2.2.1,.inl ⟨rfl,by simp[opX,unX,hp]⟩⟩
 ·cases zb
  ·have hp:p≠0:=by rintro rfl;simp[sgZ]at fh
   obtain⟨⟨av,bT,bS,bR,bQ⟩,⟨bI,bH,bG⟩,⟨bM,bL,bK⟩,⟨bP,bO,bN⟩,⟨bX,bW,bV⟩,bU⟩:=HB.out.cells;go_wp2_with fail;obtain⟨ak,ae,hr2⟩:=Ak HB.out.r (.bool false) (.slice none 0 0) (.slice none 0 0);refine bodyPost_ret (v:= .tuple #[.agg #[.bool false,.slice none 0 0,.slice none 0 0],.int .i64 0]) (by simp[results,Tryz.results186,go_sem,ak,ae,hr2]) rfl ?_
   exact⟨_,0,_,_,rfl,Aj.zero _ _,HX.out.three (show w.heap.size<=w.heap.size+3 by omega) _ _ _,AA.1,AA.2.1,.inr (.inr ⟨rfl,by simp[opX,unX,hp],rfl,rfl⟩)⟩
  ·have hp:p=0:=by unfold sgZ at fh;split at fh<;>(try split at fh)<;>first|omega|(simp at fh)
   obtain⟨⟨av,bT,bS,bR,bQ⟩,⟨bI,bH,bG⟩,⟨bM,bL,bK⟩,⟨bP,bO,bN⟩,⟨bX,bW,bV⟩,bU⟩:=HB.out.cells;go_wp2_with fail;clear av bT bS bR bQ bI bH bG bM bL bK bP bO bN bX bW bV bU;refine(DM _ 1 (by decide) (by decide)).mono ?_
   rintro e w2 ⟨v2,rfl,ba,ah⟩;have HB:=hid (HB.out.ext ah);have HX:=hid (HX.out.trans ah);have R2:=hid ba;obtain⟨f2,g2,G2,j2,y2,Y2,z2,rfl⟩:=ba.shape;clear ba;clear ah;obtain⟨⟨av,bT,bS,bR,bQ⟩,⟨bI,bH,bG⟩,⟨bM,bL,bK⟩,⟨bP,bO,bN⟩,⟨bX,bW,bV⟩,bU⟩:=HB.out.cells;go_wp2_with fail;obtain⟨ak,ae,hr2⟩:=Ak HB.out.r (.bool f2) (.slice G2 g2 j2) (.slice Y2 y2 z2);refine bodyPost_ret (v:= .tuple #[.agg #[.bool f2,.slice G2 g2 j2,.slice Y2 y2 z2],.int .i64 1]) (by simp[results,Tryz.results186,go_sem,ak,ae,hr2]) rfl ?_
   exact⟨_,1,_,_,rfl,R2.out.low0.ku (KU.three HB.out.r _ _ _),HX.out.three (show w.heap.size<=w.heap.size+3 by omega) _ _ _,AA.2.2.2,AA.2.2.1,.inl ⟨rfl,by simp[opX,unX,hp]⟩⟩
 ·cases zb
  ·have hp:p≠0:=by rintro rfl;simp[sgZ]at fh
   obtain⟨⟨av,bT,bS,bR,bQ⟩,⟨bI,bH,bG⟩,⟨bM,bL,bK⟩,⟨bP,bO,bN⟩,⟨bX,bW,bV⟩,bU⟩:=HB.out.cells;go_wp2_with fail;obtain⟨ak,ae,hr2⟩:=Ak HB.out.r (.bool false) (.slice none 0 0) (.slice none 0 0);refine bodyPost_ret (v:= .tuple #[.agg #[.bool false,.slice none 0 0,.slice none 0 0],.int .i64 0]) (by simp[results,Tryz.results186,go_sem,ak,ae,hr2]) rfl ?_
   exact⟨_,0,_,_,rfl,Aj.zero _ _,HX.out.three (show w.heap.size<=w.heap.size+3 by omega) _ _ _,AA.1,AA.2.1,.inr (.inr ⟨rfl,by simp[opX,unX,hp],rfl,rfl⟩)⟩
  ·have hp:p=0:=by unfold sgZ at fh;split at fh<;>(try split at fh)<;>first|omega|(simp at fh)
   obtain⟨⟨av,bT,bS,bR,bQ⟩,⟨bI,bH,bG⟩,⟨bM,bL,bK⟩,⟨bP,bO,bN⟩,⟨bX,bW,bV⟩,bU⟩:=HB.out.cells;go_wp2_with fail;clear av bT bS bR bQ bI bH bG bM bL bK bP bO bN bX bW bV bU;refine(DM _ 0 (by decide) (by decide)).mono ?_
   rintro e w2 ⟨v2,rfl,ba,ah⟩;have HB:=hid (HB.out.ext ah);have HX:=hid (HX.out.trans ah);have R2:=hid ba;obtain⟨f2,g2,G2,j2,y2,Y2,z2,rfl⟩:=ba.shape;clear ba;clear ah;obtain⟨⟨av,bT,bS,bR,bQ⟩,⟨bI,bH,bG⟩,⟨bM,bL,bK⟩,⟨bP,bO,bN⟩,⟨bX,bW,bV⟩,bU⟩:=HB.out.cells;go_wp2_with fail;obtain⟨ak,ae,hr2⟩:=Ak HB.out.r (.bool f2) (.slice G2 g2 j2) (.slice Y2 y2 z2);refine bodyPost_ret (v:= .tuple #[.agg #[.bool f2,.slice G2 g2 j2,.slice Y2 y2 z2],.int .i64 1]) (by simp[results,Tryz.results186,go_sem,ak,ae,hr2]) rfl ?_
   exact⟨_,1,_,_,rfl,R2.out.low0.ku (KU.three HB.out.r _ _ _),HX.out.three (show w.heap.size<=w.heap.size+3 by omega) _ _ _,AA.1,AA.2.2.1,.inl ⟨rfl,by simp[opX,unX,hp]⟩⟩
structure EV (w:World) (c b:Nat) (T:List X2):Prop where
 blk:Blk w c 137 #[.slice (some ⟨b,0,none⟩) T.length T.length]
 row:ES w b T
theorem EV.ext{w w':World}{c b:Nat}{T:List X2}(h:EV w c b T)(hx:Ext w w'):EV w' c b T:=⟨h.blk.ext hx,h.row.ext hx⟩
theorem Bw.shape{w:World}{v:Value}{x:X2}(h:Bw w v x):∃f A n c A' n' c',v= .agg #[.bool f,.slice A n c,.slice A' n' c',.int .i64 (x.st:Int)]:=by
 obtain⟨A,n,c,A',n',c',rfl,_⟩:=h;exact⟨_,A,n,c,A',n',c',rfl⟩
theorem Bw.rat{w:World}{f:Bool}{A A':Option Addr}{n c n' c':Nat}{s:Int}{x:X2}(h:Bw w (.agg #[.bool f,.slice A n c,.slice A' n' c',.int .i64 s]) x):Aj 0 w (.agg #[.bool f,.slice A n c,.slice A' n' c']) x.p x.q:=by
 obtain⟨A,n,c,A',n',c',he,h⟩:=h;injection he with he
 injection he with he
 injection he with h1 he
 injection he with h2 he
 injection he with h3 he
 rw[h1,h2,h3];exact h
theorem KU.four{g:Nat}{w:World}{cs:Array Value}(hb:Blk w g 136 cs)(a b c d:Value):KU w ((((w.setCell ⟨g,0,none⟩ a).setCell ⟨g,1,none⟩ b).setCell ⟨g,2,none⟩ c).setCell ⟨g,3,none⟩ d):=by
 have ht:136≠183:=by decide
 exact(((KU.set hb ht (a:=⟨g,0,none⟩) rfl a).trans (KU.set (hb.set_ 0 a) ht (a:=⟨g,1,none⟩) rfl b)).trans (KU.set ((hb.set_ 0 a).set_ 1 b) ht (a:=⟨g,2,none⟩) rfl c)).trans (KU.set (((hb.set_ 0 a).set_ 1 b).set_ 2 c) ht (a:=⟨g,3,none⟩) rfl d)
theorem TS(w:World)(c b:Nat)(T:List X2)(h:EV w c b T)(j:Nat)(hj:j<T.length)(hT:T.length<=1000000):
  Calls Tryz.prog 140 #[.int .i64 (j:Int),.pointer (some ⟨c,0,none⟩)] w fun e w'=>∃v',e= .returned v'/\Bw w' v' (T.getD j X2.O)/\Ext w w':=by
 have HO:=hid h;obtain⟨l,hl⟩:∃l,l=T.length:=⟨_,rfl⟩;have HL:=hid hl;have qb:T[j]? =some (T.getD j X2.O):=by rw[List.getD_eq_getElem?_getD,List.getElem?_eq_getElem hj,Option.getD_some]
 rw[<-hl]at hT hj;generalize T.getD j X2.O=y at *;have Zb:=hid qb;clear qb;have si:(0:Int)<=(j:Int):=by omega
 have ot:(j:Int)<(l:Int):=by omega
 clear h hl;go_enter Tryz.func140,Tryz.ntmps140;go_upto_region 1 with fail;have hb:=Blk.new w 136 #[.bool false,.slice none 0 0,.slice none 0 0,.int .i64 0];have hx:=(Ext.refl w).alloc (.cells #[.bool false,.slice none 0 0,.slice none 0 0,.int .i64 0] 136);generalize w.alloc (.cells #[.bool false,.slice none 0 0,.slice none 0 0,.int .i64 0] 136)=w1 at *;have HB:=hid hb;have HX:=hid hx;have HO:=hid (HO.out.ext hx);clear hb hx;have q0:=HB.out.fourX;obtain⟨cs,ao,cB,fp⟩:=HO.out.row;obtain⟨⟨A,n,k,A',n',k',p0,p1,p2,hr⟩,p3⟩:=fp j _ Zb.out;have HR:=hid hr;have hc0:=HO.out.blk.cell 0;have hc1:w1.cell? ⟨c,0,none⟩=some (.slice (some ⟨b,0,none⟩) l l):=by rw[HL.out];exact hc0
 clear fp ao cB hr hc0;obtain⟨yf,rZ⟩:∃yf,decide (y.p<0)=yf:=⟨_,rfl⟩;have HY:=hid rZ;rw[rZ]at p0 HR;clear rZ;go_wp2_with fail;obtain⟨r0,r1,r2,r3⟩:=AI HB.out (.bool yf) (.slice A n k) (.slice A' n' k') (.int .i64 (y.st:Int));refine bodyPost_ret (v:= .agg #[.bool yf,.slice A n k,.slice A' n' k',.int .i64 (y.st:Int)]) (by simp[results,Tryz.results140,go_sem,r0,r1,r2,r3]) rfl ?_
 have bD:=(((HX.out.setCell (p:=⟨w.heap.size,0,none⟩) (Nat.le_refl _) (.bool yf)).setCell (p:=⟨w.heap.size,1,none⟩) (Nat.le_refl _) (.slice A n k)).setCell (p:=⟨w.heap.size,2,none⟩) (Nat.le_refl _) (.slice A' n' k')).setCell (p:=⟨w.heap.size,3,none⟩) (Nat.le_refl _) (.int .i64 (y.st:Int));refine⟨_,rfl,⟨A,n,k,A',n',k',by rw[HY.out],?_⟩,bD⟩;rw[HY.out];exact HR.out.ku (KU.four HB.out _ _ _ _)
theorem RT{l:List UInt8}(h:AX l=0):l.length<=400:=by
 unfold AX at h;split at h
 ·cases h
 ·omega
theorem Hs{l:List UInt8}(h:AX l=0):(Ac (Ic l).natAbs).length<=1000/\(Ac (If l)).length<=1000:=by
 have hl:=RT h;have hall:(whole l++AS l).all Bk=true:=by
  unfold AX Cu at h;split at h
  ·cases h
  split at h
  ·rename_i hg;rw[Bool.and_eq_true]at hg;exact hg.2
  ·cases h
 have hN:=Gg _ hall;have wP:(whole l++AS l).length<=400:=by
  rw[List.length_append];rcases B5 l with ⟨_,h1⟩|⟨_,h1,h2⟩
  ·have:=congrArg List.length h1;simp at this;omega
  ·rw[h2];have:=F5 l;simp;omega
 have hpl:(AS l).length<=400:=by rw[List.length_append]at wP;omega
 constructor
 ·unfold Ic;rw[Ff,Int.natAbs_natCast];exact Nat.le_trans (Ay (Nat.div_le_self _ _)) (DF hN (by omega))
 ·unfold If Ec;refine Nat.le_trans (Ay (Nat.div_le_self _ _)) (DF (k:=(AS l).length+1) ?_ (by omega));exact Nat.pow_lt_pow_right (by decide) (by omega)
end Big
end Go.Proofs.YtkoaogkknnelaaaGreatDoor
