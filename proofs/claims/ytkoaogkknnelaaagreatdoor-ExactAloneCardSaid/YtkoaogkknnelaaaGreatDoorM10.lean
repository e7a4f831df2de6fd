import Derived.Test.YtkoaogkknnelaaaGreatDoorM9
import Derived.Deep.RegionLaw
set_option linter.unusedVariables false
set_option linter.unusedSimpArgs false
set_option maxRecDepth 100000
namespace Go.Proofs.YtkoaogkknnelaaaGreatDoor
namespace Big
open Lib (hid)
noncomputable def EZ(R:Nat->Bool)(T:List X2)(n:Nd):List X2:=T++[if R T.length then BH n (T.getD n.a.toNat X2.O) (T.getD n.b.toNat X2.O) else X2.O]
noncomputable def CE(R:Nat->Bool)(ns:List Nd):List X2:=ns.foldl (EZ R) []
theorem OQ(R:Nat->Bool)(ns:List Nd)(x:Nd):CE R (ns++[x])=EZ R (CE R ns) x:=by unfold CE;rw[List.foldl_append];rfl
theorem Dj(R:Nat->Bool)(ns:List Nd):(CE R ns).length=ns.length:=by
 have key:∀(l:List Nd) (D:List X2),(l.foldl (EZ R) D).length=D.length+l.length:=by
  intro l
  induction l with
  |nil=>intro D;rfl
  |cons x l ih=>
   intro D;rw[List.foldl_cons,ih];simp only[EZ,List.length_append,List.length_cons,List.length_nil];omega
 have:=key ns [];rw[List.length_nil,Nat.zero_add]at this;exact this
theorem GJ(R:Nat->Bool)(ns:List Nd){i:Nat}(hi:i<ns.length):CE R (ns.take (i+1))=EZ R (CE R (ns.take i)) ns[i]:=by
 rw[List.take_succ_eq_append_getElem hi,OQ]
theorem QA(R:Nat->Bool)(ns ms:List Nd):CE R ns <+: CE R (ns++ms):=by
 have key:∀(l:List Nd) (D:List X2),D <+: l.foldl (EZ R) D:=by
  intro l
  induction l with
  |nil=>intro D;exact List.prefix_refl _
  |cons x l ih=>intro D;exact(List.prefix_append D _).trans (ih _)
 unfold CE;rw[List.foldl_append];exact key ms _
theorem JP(R:Nat->Bool){ns:List Nd}{i:Nat}(yF:i<=ns.length):∀j,j<i->(CE R (ns.take i)).getD j X2.O=(CE R ns).getD j X2.O:=by
 intro j hj;have h1:=QA R (ns.take i) (ns.drop i);rw[List.take_append_drop]at h1;obtain⟨t,ht⟩:=h1;rw[<-ht,EK _ _ (by rw[Dj,List.length_take];omega)]
theorem Su(R:Nat->Bool)(ns:List Nd):∀x∈CE R ns,x.Ok:=by
 have key:∀(l:List Nd) (D:List X2),(∀x∈D,x.Ok)->∀x∈l.foldl (EZ R) D,x.Ok:=by
  intro l
  induction l with
  |nil=>intro D h;exact h
  |cons n l ih=>
   intro D h;rw[List.foldl_cons];refine ih _ (fun x hx=> ?_);unfold EZ at hx;rcases List.mem_append.1 hx with hx|hx
   ·exact h x hx
   ·rw[List.mem_singleton]at hx;subst hx;have hg:∀j,(D.getD j X2.O).Ok:=fun j=>by
     rw[List.getD_eq_getElem?_getD];cases hj:D[j]? with
     |none=>exact X2.O_ok
     |some y=>exact h y (List.mem_of_getElem? hj)
    split
    ·exact Ii n (hg _) (hg _)
    ·exact X2.O_ok
 exact key ns [] (fun x hx=>by cases hx)
theorem OR(R:Nat->Bool){ns:List Nd}(hs:AC ns)(hR:∀i a,R i=true->a∈Cv ns i->R a=true):∀i,i<ns.length->R i=true->(CE R ns).getD i X2.O=(DI ns).getD i X2.O:=by
 have key:∀m i,i<m->i<ns.length->R i=true->(CE R ns).getD i X2.O=(DI ns).getD i X2.O:=by
  intro m
  induction m with
  |zero=>intro i hi;omega
  |succ m ih=>
   intro i vE hi VD;have hx:ns[i]? =some ns[i]:=List.getElem?_eq_getElem hi
   rw[Ik hs hx,<-JP R (Nat.succ_le_of_lt hi) i (Nat.lt_succ_self i),GJ R ns hi];unfold EZ;have hl:(CE R (ns.take i)).length=i:=by rw[Dj,List.length_take];omega
   rw[Jh _ _ hl.symm,hl,if_pos VD];have qO:∀a,a∈Cv ns i->(CE R (ns.take i)).getD a X2.O=(DI ns).getD a X2.O:=fun a ha=>by
    have Yf:=hs.args_lt ha;rw[JP R (Nat.le_of_lt hi) a Yf];exact ih a (by omega) (by omega) (hR i a VD ha)
   generalize hnx:ns[i]=x at *;rcases hs.2 i x hx with ⟨k,t,rfl,ho⟩|⟨k,n,j,rfl,ho,hj⟩|⟨k,j,q,rfl,hk,hj,hq⟩
   ·have:k<5:=by rcases ho with ⟨h,_⟩|⟨h,_⟩|⟨h,_⟩<;>omega
    exact Fr (by simp only;omega) _ _ _ _
   ·have h5:=ho.1;have ha:j∈Cv ns i:=by
     unfold Cv;rw[hx];simp only[Cg];rw[if_neg (by omega),if_neg (by omega)];simp
    simp only[Int.toNat_natCast];rw[qO j ha];exact Ih (by simp only;omega) (by simp only;omega) _ _ _
   ·have ha:j∈Cv ns i/\q∈Cv ns i:=by
     unfold Cv;rw[hx];simp only[Cg];rw[if_neg (by omega),if_pos (by omega)];simp
    simp only[Int.toNat_natCast];rw[qO j ha.1,qO q ha.2]
 intro i;exact key (i+1) i (Nat.lt_succ_self i)
theorem OO{ns:List Nd}{i j:Nat}(hi:i<=ns.length)(hj:j<i):(DI (ns.take i)).getD j X2.O=(DI ns).getD j X2.O:=Eh hi j hj
open Go.RowKit
def di(x:Int):Value:= .int .i64 x
def TW(l:List Int):Prop:=∀x∈l,-9223372036854775808<=x/\x<=9223372036854775807
def DV(w:World)(v:Value)(l:List Int):Prop:=TW l/\Ch w v (l.map di)
structure KB (B g:Nat) (w w':World):Prop where
 os:w'.os=w.os
 tape:w'.tape=w.tape
 output:w'.output=w.output
 size:w.heap.size<=w'.heap.size
 block:∀k,k<B->k≠g->w'.heap[k]? =w.heap[k]?
section
variable {w w' w'':World} {B B' g:Nat} {v:Value} {l:List Int}
theorem KB.refl(B g:Nat)(w:World):KB B g w w:=⟨rfl,rfl,rfl,Nat.le_refl _,fun _ _ _=>rfl⟩
theorem KB.trans(h:KB B g w w')(k:KB B g w' w''):KB B g w w'':=
 ⟨k.os.trans h.os,k.tape.trans h.tape,k.output.trans h.output,Nat.le_trans h.size k.size,fun i h1 h2=>(k.block i h1 h2).trans (h.block i h1 h2)⟩
theorem KB.mono(h:KB B g w w')(hB:B'<=B):KB B' g w w':=⟨h.os,h.tape,h.output,h.size,fun k h1 h2=>h.block k (by omega) h2⟩
theorem KB.below(h:KB B g w w')(k:Below B w' w''):KB B g w w'':=h.trans ⟨k.os,k.tape,k.output,k.size,fun i h1 _=>k.block i h1⟩
theorem KB.ext(h:KB B g w w')(k:Ext w' w'')(hB:B<=w'.heap.size):KB B g w w'':=h.below (Below.mono k hB)
theorem KB.to_ext{w0:World}(h:KB B g w w')(k:Ext w0 w)(hB:w0.heap.size<=B)(hg:w0.heap.size<=g):Ext w0 w':=
 ⟨h.os.trans k.os,h.tape.trans k.tape,h.output.trans k.output,Nat.le_trans k.size h.size,fun i hi=>(h.block i (by omega) (by omega)).trans (k.block i hi)⟩
theorem KB.blk{t:TypeId}{cs:Array Value}{b:Nat}(h:KB B g w w')(hb:Blk w b t cs)(h1:b<B)(h2:b≠g):Blk w' b t cs:=(h.block b h1 h2).trans hb
theorem KB.set{p:Addr}(hp:p.block=g)(u:Value):KB B g w (w.setCell p u):=
 ⟨rfl,rfl,rfl,by simp[World.setCell],fun k _ h2=>Below.heap_setCell w p u k (by rw[hp];exact h2)⟩
theorem KB.drewN(h:KB B g w w')(n:Nat):KB B g w (w'.drewN n):=⟨h.os,h.tape,h.output,h.size,h.block⟩
theorem Ch.kb{vs:List Value}(h:Ch w v vs)(hk:KB B g w w')(hv:∀b,v.ownBlock=some b->b<B/\b≠g):Ch w' v vs:=by
 obtain⟨A,c,rfl,h2,h3,h4⟩:=h;refine⟨A,c,rfl,h2,h3,fun hp=> ?_⟩;obtain⟨b,o,rfl,hlt,hc⟩:=h4 hp;obtain⟨h5,h6⟩:=hv b rfl;refine⟨b,o,rfl,Nat.lt_of_lt_of_le hlt hk.size,fun j u hj=> ?_⟩;have h7:=hc j u hj;rw[<-h7];exact World.cell?_of_block (a:=⟨b,o+j,none⟩) (hk.block b h5 h6)
theorem DV.ext(h:DV w v l)(hb:Ext w w'):DV w' v l:=⟨h.1,h.2.ext hb⟩
theorem DV.kb(h:DV w v l)(hk:KB B g w w')(hv:∀b,v.ownBlock=some b->b<B/\b≠g):DV w' v l:=⟨h.1,h.2.kb hk hv⟩
theorem DV.open(h:DV w v l):∃A c,v= .slice A l.length c/\l.length<=c/\c<=maxLen/\
  (0<l.length->∃b o,A=some ⟨b,o,none⟩/\b<w.heap.size/\∀j (hj:j<l.length),w.cell? ⟨b,o+j,none⟩=some (.int .i64 l[j])):=by
 obtain⟨A,c,rfl,h2,h3,h4⟩:=h.2;rw[List.length_map]at h2 h4;refine⟨A,c,by rw[List.length_map],h2,h3,fun hp=> ?_⟩;obtain⟨b,o,rfl,hlt,hc⟩:=h4 hp;exact⟨b,o,rfl,hlt,fun j hj=>hc j _ (by rw[List.getElem?_map,List.getElem?_eq_getElem hj];rfl)⟩
theorem DV.lt(h:DV w v l)(hp:0<l.length):∀b,v.ownBlock=some b->b<w.heap.size:=by
 intro b hb;obtain⟨A,c,rfl,_,_,h4⟩:=h.open;obtain⟨b',o,rfl,hlt,_⟩:=h4 hp;simp only[Value.ownBlock,Option.some.injEq]at hb;omega
end
def Ct(l:List Int)(a:Nat)(n:Int):Int:=if a<l.length then l.getD a 0 % n else 0
def C6(l:List Int)(a:Nat):Nat:=if a<l.length then a+1 else a
structure BC (B g:Nat) (w:World) (L:Value) (l:List Int) (a:Nat):Prop where
 blk:Blk w g 129 #[L,.int .i64 (a:Int)]
 arr:DV w L l
 off:0<l.length->∀b,L.ownBlock=some b->b<B/\b≠g
 lt:g<B
 pos:a<=l.length
 few:l.length<=1000000
theorem B7{l:List Int}{a:Nat}{n:Int}(hn:1<=n):0<=Ct l a n/\Ct l a n<n:=by
 unfold Ct;split
 ·exact⟨Int.emod_nonneg _ (by omega),Int.emod_lt_of_pos _ (by omega)⟩
 ·exact⟨Int.le_refl _,by omega⟩
theorem DV.nil_kb{w w':World}{v:Value}{l:List Int}(h:DV w v l)(h0:l.length=0)(_hs:w.heap.size<=w'.heap.size):DV w' v l:=by
 refine⟨h.1,?_⟩;obtain⟨A,c,rfl,h2,h3,_⟩:=h.2;exact⟨A,c,rfl,h2,h3,fun hp=>by rw[List.length_map]at hp;omega⟩
theorem BC.kb{B g:Nat}{w w':World}{L:Value}{l:List Int}{a a':Nat}(h:BC B g w L l a)(hk:KB B g w w')(hb:Blk w' g 129 #[L,.int .i64 (a':Int)])(ha:a'<=l.length):BC B g w' L l a':=by
 refine⟨hb,?_,h.off,h.lt,ha,h.few⟩;rcases Nat.eq_zero_or_pos l.length with h0|h0
 ·exact h.arr.nil_kb h0 hk.size
 ·exact h.arr.kb hk (h.off h0)
theorem BC.below{B g:Nat}{w w':World}{L:Value}{l:List Int}{a:Nat}(h:BC B g w L l a)(hk:Below B w w'):BC B g w' L l a:=
 h.kb ((KB.refl B g w).below hk) ((hk.block g h.lt).trans h.blk) h.pos
theorem BC.mono{B B' g:Nat}{w:World}{L:Value}{l:List Int}{a:Nat}(h:BC B g w L l a)(hB:B<=B'):BC B' g w L l a:=
 ⟨h.blk,h.arr,fun h0 b hb=>⟨Nat.lt_of_lt_of_le (h.off h0 b hb).1 hB,(h.off h0 b hb).2⟩,Nat.lt_of_lt_of_le h.lt hB,h.pos,h.few⟩
theorem Qw(v n:Int)(hn:1<=n):(if v.tmod n<0 then v.tmod n+n else v.tmod n)=v % n:=by
 have h:=Int.tmod_eq_emod (a:=v) (b:=n);have h1:=Int.emod_nonneg v (show n≠0 by omega);have h2:=Int.emod_lt_of_pos v (show 0<n by omega);rw[h];split<;>split<;>omega
theorem SL(w:World)(v n:Int)(_h1: -9223372036854775808<=v)(_h2:v<=9223372036854775807)(hn:1<=n)(hn2:n<=4611686018427387904):
  Calls Tryz.prog 14 #[.int .i64 v,.int .i64 n] w fun e w'=>e= .returned (.int .i64 (v % n))/\w=w':=by
 have hT:=Qw v n hn;have hne:(n == 0)=false:=by rw[beq_eq_false_iff_ne];omega
 obtain⟨r,hr⟩:∃r,v.tmod n=r:=⟨_,rfl⟩;rw[hr]at hT;have iD:=Int.emod_nonneg v (show n≠0 by omega);have ol:=Int.emod_lt_of_pos v (show 0<n by omega);by_cases h0:r<0
 ·rw[if_pos h0]at hT;have aq: -n<=r:=by omega
  have HT:=hid hT;clear hT iD ol;go_enter Tryz.func14,Tryz.ntmps14;go_wp2_with fail;go_ret;exact⟨congrArg (fun z=>Ending.returned (.int .i64 z)) HT.out,rfl⟩
 ·rw[if_neg h0]at hT;have aq:r<n:=by omega
  have HT:=hid hT;clear hT iD ol;go_enter Tryz.func14,Tryz.ntmps14;go_wp2_with fail;go_ret;exact⟨congrArg (fun z=>Ending.returned (.int .i64 z)) HT.out,rfl⟩
theorem L2(B g:Nat)(w:World)(L:Value)(l:List Int)(a:Nat)(h:BC B g w L l a):Calls Tryz.prog 76 #[.pointer (some ⟨g,0,none⟩)] w fun e w'=>e= .returned (.bool (decide (a<l.length)))/\Dr w w':=by
 obtain⟨k0,k1,_,_,_⟩:=h.blk.two;obtain⟨A,c,rfl,hc,hm,_⟩:=h.arr.open;have hx:decide ((a:Int)<(l.length:Int))=decide (a<l.length):=by simp
 have HX:=hid hx;clear h hc hm hx;go_enter Tryz.func76,Tryz.ntmps76;go_wp2_with fail;go_quiet (fail);go_wp2_with fail;go_ret;exact⟨by rw[<-HX.out];rfl,(Dr.refl w).drewN _⟩
theorem Gi(B g:Nat)(w:World)(L:Value)(l:List Int)(a:Nat)(n:Int)(h:BC B g w L l a)(hn:1<=n)(hn2:n<=4611686018427387904):Calls Tryz.prog 78 #[.pointer (some ⟨g,0,none⟩),.int .i64 n] w fun e w'=>e= .returned (.int .i64 (Ct l a n))/\BC B g w' L l (C6 l a)/\(∀B',KB B' g w w'):=by
 have H:=hid h;have k0:=h.blk.two;have jM:=h.pos;have ei:=h.few;obtain⟨A,c,rfl,hc,hm,aa⟩:=h.arr.open;have ax:=h.arr.1;have HC:=hid aa;have jA:=hid ax;clear h hc hm ax aa;rcases Nat.lt_or_ge a l.length with hlt|ew
 ·have hV:Ct l a n=l[a] % n:=by unfold Ct;rw[if_pos hlt,List.getD_eq_getElem?_getD,List.getElem?_eq_getElem hlt];rfl
  have hA:C6 l a=a+1:=if_pos hlt;have hb:=jA.out l[a] (List.getElem_mem hlt);obtain⟨b,o,rfl,eS,aa⟩:=HC.out (by omega);have qm:=H.out.off (by omega) b rfl;have ac:=aa a hlt;have bZ:Hid (∀W:World,KB B g w W->W.cell? ⟨b,o+a,none⟩=some (.int .i64 l[a])):=hid (fun W hk=>(World.cell?_of_block (a:=⟨b,o+a,none⟩) (hk.block b qm.1 qm.2)).trans ac);have HV:=hid hV;have HA:=hid hA;have rC:=hid (fun W=>SL W l[a] n hb.1 hb.2 hn hn2);have a5:IntKind.i64.wrap ((a:Int)+1)=(a:Int)+1:=IntWalk.i64_in _ (by omega);have ck:IntKind.i64.wrap (a:Int)=(a:Int):=IntWalk.i64_in _ (by omega);have Vq:=H.out.blk.set_ 1 (.int .i64 ((a:Int)+1));have zU:Hid (Blk (w.setCell ⟨g,1,none⟩ (.int .i64 ((a:Int)+1))) g 129 #[.slice (some ⟨b,o,none⟩) l.length c,.int .i64 ((a:Int)+1)]):=hid Vq;clear hV hA aa ac hb qm Vq;generalize l[a]=x at *;go_enter Tryz.func78,Tryz.ntmps78;go_wp2_with fail;go_quiet (fail);go_wp2_with fail;obtain⟨W,hW⟩:∃W,W=(w.drewN nq).setCell ⟨g,1,none⟩ (.int .i64 ((a:Int)+1)):=⟨_,rfl⟩;rw[<-hW];have HK:Hid (∀B',KB B' g w W):=hid (fun B'=>by rw[hW];exact((KB.refl B' g w).drewN nq).trans (KB.set (p:=⟨g,1,none⟩) rfl _));have yj:Blk W g 129 #[.slice (some ⟨b,o,none⟩) l.length c,.int .i64 ((a:Int)+1)]:=by
   rw[hW];exact(H.out.blk.drewN nq).set_ 1 (.int .i64 ((a:Int)+1))
  have ZE:=hid yj;have m0:=yj.two;have ac:=bZ.out W (HK.out B);clear hW yj k0 zU;have hlt2:(a:Int)<(l.length:Int):=by omega
  go_region_law (go_simp;go_at_call 14;refine(rC.out _).mono ?_;rintro e w3 ⟨rfl,rfl⟩)
  all_goals
   go_wp2_with fail;go_ret;refine⟨by rw[HV.out];rfl,?_,fun B'=>(HK.out B').drewN _⟩;rw[HA.out];refine H.out.kb ((HK.out B).drewN _) ?_ (by omega)
   rw[Int.natCast_add];exact ZE.out
 ·have hV:Ct l a n=0:=if_neg (by omega);have hA:C6 l a=a:=if_neg (by omega);have HV:=hid hV;have HA:=hid hA;have oi:¬(a:Int)<(l.length:Int):=by omega
  clear hV hA hn hn2;go_enter Tryz.func78,Tryz.ntmps78;go_wp2_with fail;go_quiet (fail);go_wp2_with fail;go_ret;refine⟨by rw[HV.out];rfl,?_,fun B'=>(KB.refl B' g w).drewN _⟩;rw[HA.out];exact H.out.kb ((KB.refl B g w).drewN _) H.out.blk H.out.pos
theorem JZ(B g:Nat)(w:World)(L:Value)(l:List Int)(a:Nat)(lo hi:Int)(h:BC B g w L l a)(h1:lo<=hi)(h2: -1000000<=lo)(h3:hi<=1000000):Calls Tryz.prog 77 #[.pointer (some ⟨g,0,none⟩),.int .i64 lo,.int .i64 hi] w fun e w'=>e= .returned (.int .i64 (lo+Ct l a (hi-lo+1)))/\BC B g w' L l (C6 l a)/\(∀B',KB B' g w w'):=by
 have HN:=hid (Gi B g w L l a (hi-lo+1) h (by omega) (by omega));have hr:=B7 (l:=l) (a:=a) (n:=hi-lo+1) (by omega);have dO:IntKind.i64.wrap (hi-lo)=hi-lo:=IntWalk.i64_in _ (by omega);have a5:IntKind.i64.wrap (hi-lo+1)=hi-lo+1:=IntWalk.i64_in _ (by omega);generalize Ct l a (hi-lo+1)=x at *;have ck:IntKind.i64.wrap (lo+x)=lo+x:=IntWalk.i64_in _ (by omega);clear h;go_enter Tryz.func77,Tryz.ntmps77;go_wp2_with fail;refine HN.out.mono ?_
 rintro e w2 ⟨rfl,ht,hk⟩;have lj:=hid ht;have HK:=hid hk;clear ht hk;go_wp2_with fail;go_ret;exact⟨rfl,lj.out,HK.out⟩
theorem Og(w:World)(v:Value)(l:List Int)(h:DV w v l)(hn:l.length<=1000000):Calls Tryz.prog 23 #[v] w fun e w'=>e= .returned (.pointer (some ⟨w.heap.size,0,none⟩))/\BC (w.heap.size+1) w.heap.size w' v l 0/\Ext w w'/\w'.heap.size=w.heap.size+1:=by
 have H:=hid h;obtain⟨A,c,rfl,_⟩:=h.open;clear h;go_enter Tryz.func23,Tryz.ntmps23;go_wp2_with fail;go_ret;refine⟨rfl,⟨Blk.new w _ _,H.out.ext ((Ext.refl w).alloc _),fun h0 b hb=> ?_,by omega,Nat.zero_le _,hn⟩,(Ext.refl w).alloc _,by simp⟩;have:=H.out.lt h0 b hb;omega
theorem Kb(w:World)(v:Value)(l:List Int)(h:DV w v l):Calls Tryz.prog 21 #[v] w fun e w'=>e= .returned (.bool (decide (l.length<=120)))/\w=w':=by
 obtain⟨A,c,rfl,_⟩:=h.open;have hx:decide ((l.length:Int)<=120)=decide (l.length<=120):=by
  rw[decide_eq_decide];omega
 have HX:=hid hx;clear h hx;go_enter Tryz.func21,Tryz.ntmps21;go_wp2_with fail;go_ret;exact⟨by rw[<-HX.out];rfl,rfl⟩
theorem Mc(w:World)(n:Nat)(hn:n<256):Calls Tryz.prog 196 #[.int .u8 (n:Int)] w fun e w'=>e= .returned (.bool (C5 n))/\w=w':=by
 have e1:decide ((48:Int)<=(n:Int))=decide (48<=n):=by rw[decide_eq_decide];omega
 have e2:decide ((n:Int)<=57)=decide (n<=57):=by rw[decide_eq_decide];omega
 have H:Hid (C5 n=(decide ((48:Int)<=(n:Int)) && decide ((n:Int)<=57))):=hid (by rw[e1,e2];rfl);clear e1 e2;cases b1:decide ((48:Int)<=(n:Int))<;>cases b2:decide ((n:Int)<=57)
 all_goals first|(exfalso;simp only[decide_eq_false_iff_not,decide_eq_true_eq]at b1 b2;omega)|skip
 all_goals
  rw[b1,b2]at H;go_enter Tryz.func196,Tryz.ntmps196;go_wp2_with fail;go_ret;rw[H.out];exact⟨rfl,rfl⟩
theorem FQ(w:World)(n:Nat)(hn:n<256):Calls Tryz.prog 124 #[.int .u8 (n:Int)] w fun e w'=>e= .returned (.bool (C5 n))/\w=w':=by
 have e1:decide ((48:Int)<=(n:Int))=decide (48<=n):=by rw[decide_eq_decide];omega
 have e2:decide ((n:Int)<=57)=decide (n<=57):=by rw[decide_eq_decide];omega
 have H:Hid (C5 n=(decide ((48:Int)<=(n:Int)) && decide ((n:Int)<=57))):=hid (by rw[e1,e2];rfl);clear e1 e2;cases b1:decide ((48:Int)<=(n:Int))<;>cases b2:decide ((n:Int)<=57)
 all_goals first|(exfalso;simp only[decide_eq_false_iff_not,decide_eq_true_eq]at b1 b2;omega)|skip
 all_goals
  rw[b1,b2]at H;go_enter Tryz.func124,Tryz.ntmps124;go_wp2_with fail;go_ret;rw[H.out];exact⟨rfl,rfl⟩
theorem Gn(w:World)(n:Nat)(hn:n<256):Calls Tryz.prog 150 #[.int .u8 (n:Int)] w fun e w'=>e= .returned (.bool (DN n))/\w=w':=by
 have e1:decide ((97:Int)<=(n:Int))=decide (97<=n):=by rw[decide_eq_decide];omega
 have e2:decide ((n:Int)<=122)=decide (n<=122):=by rw[decide_eq_decide];omega
 have e3:decide ((65:Int)<=(n:Int))=decide (65<=n):=by rw[decide_eq_decide];omega
 have e4:decide ((n:Int)<=90)=decide (n<=90):=by rw[decide_eq_decide];omega
 have H:Hid (DN n=((decide ((97:Int)<=(n:Int)) && decide ((n:Int)<=122)) || (decide ((65:Int)<=(n:Int)) && decide ((n:Int)<=90)))):=hid (by rw[e1,e2,e3,e4];rfl);clear e1 e2 e3 e4;cases b1:decide ((97:Int)<=(n:Int))<;>cases b2:decide ((n:Int)<=122)<;>cases b3:decide ((65:Int)<=(n:Int))<;>cases b4:decide ((n:Int)<=90)
 all_goals first|(exfalso;simp only[decide_eq_false_iff_not,decide_eq_true_eq]at b1 b2 b3 b4;omega)|skip
 all_goals
  rw[b1,b2,b3,b4]at H;go_enter Tryz.func150,Tryz.ntmps150;go_wp2_with fail;go_ret;rw[H.out];exact⟨rfl,rfl⟩
theorem Hl(w:World)(n:Nat)(hn:n<256):Calls Tryz.prog 122 #[.int .u8 (n:Int)] w fun e w'=>e= .returned (.bool (DN n))/\w=w':=by
 have e1:decide ((97:Int)<=(n:Int))=decide (97<=n):=by rw[decide_eq_decide];omega
 have e2:decide ((n:Int)<=122)=decide (n<=122):=by rw[decide_eq_decide];omega
 have e3:decide ((65:Int)<=(n:Int))=decide (65<=n):=by rw[decide_eq_decide];omega
 have e4:decide ((n:Int)<=90)=decide (n<=90):=by rw[decide_eq_decide];omega
 have H:Hid (DN n=((decide ((97:Int)<=(n:Int)) && decide ((n:Int)<=122)) || (decide ((65:Int)<=(n:Int)) && decide ((n:Int)<=90)))):=hid (by rw[e1,e2,e3,e4];rfl);clear e1 e2 e3 e4;cases b1:decide ((97:Int)<=(n:Int))<;>cases b2:decide ((n:Int)<=122)<;>cases b3:decide ((65:Int)<=(n:Int))<;>cases b4:decide ((n:Int)<=90)
 all_goals first|(exfalso;simp only[decide_eq_false_iff_not,decide_eq_true_eq]at b1 b2 b3 b4;omega)|skip
 all_goals
  rw[b1,b2,b3,b4]at H;go_enter Tryz.func122,Tryz.ntmps122;go_wp2_with fail;go_ret;rw[H.out];exact⟨rfl,rfl⟩
theorem NG(w:World)(n:Nat)(hn:n<256):Calls Tryz.prog 151 #[.int .u8 (n:Int)] w fun e w'=>e= .returned (.bool (BD n))/\w=w':=by
 have H:Hid (BD n=(DN n || C5 n || n == 95)):=hid rfl;have HL:=hid (fun W=>Gn W n hn);have HD:=hid (fun W=>Mc W n hn);have hi:((n:Int) == 95)=(n == 95):=by rw[Bool.eq_iff_iff];simp;omega
 have HI:=hid hi;clear hi;cases h1:DN n
 ·cases h2:C5 n
  ·rw[h1]at HL H;rw[h2]at HD H;clear h1 h2;cases h3:(n == 95)
   all_goals
    have hb:=HI.out;rw[h3]at hb;rw[h3]at H;clear h3;go_enter Tryz.func151,Tryz.ntmps151;go_wp2_with fail;refine(HL.out _).mono ?_
    rintro e w1 ⟨rfl,rfl⟩;go_wp2_with fail;refine(HD.out _).mono ?_
    rintro e w1 ⟨rfl,rfl⟩;go_wp2_with fail;go_ret;rw[H.out];exact⟨rfl,rfl⟩
  ·rw[h1]at HL H;rw[h2]at HD H;clear h1 h2;go_enter Tryz.func151,Tryz.ntmps151;go_wp2_with fail;refine(HL.out _).mono ?_
   rintro e w1 ⟨rfl,rfl⟩;go_wp2_with fail;refine(HD.out _).mono ?_
   rintro e w1 ⟨rfl,rfl⟩;go_wp2_with fail;go_ret;rw[H.out];exact⟨rfl,rfl⟩
 ·rw[h1]at HL H;clear h1;go_enter Tryz.func151,Tryz.ntmps151;go_wp2_with fail;refine(HL.out _).mono ?_
  rintro e w1 ⟨rfl,rfl⟩;go_wp2_with fail;go_ret;rw[H.out];exact⟨rfl,rfl⟩
end Big
end Go.Proofs.YtkoaogkknnelaaaGreatDoor
