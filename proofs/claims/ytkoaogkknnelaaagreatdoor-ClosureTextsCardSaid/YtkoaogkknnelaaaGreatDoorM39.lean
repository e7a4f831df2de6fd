import Derived.Test.YtkoaogkknnelaaaGreatDoorM37
set_option linter.unusedVariables false
set_option linter.unusedSimpArgs false
set_option maxHeartbeats 16000000
set_option maxRecDepth 100000
namespace Go.Proofs.YtkoaogkknnelaaaGreatDoor
namespace Big
open Lib renaming hid → J
open Go.RowKit Go.Maps Go.Sort
theorem R0(B g b:Nat)(w:World)(ns:List Nd)(nv:Value)(h:GrP B g b w ns nv)(x:Nd)(hx:CA ns.length x)(hm:BT w)(hin:x∉ns)(xi:4096<=ns.length):
  Calls Tryz.prog 104 #[.pointer (some ⟨g,0,none⟩),ndV x] w fun e w'=>e= .returned (.tuple #[.int .i64 0,.int .i64 7])/\Ext w w':=by
 have et:=J (fun W h=>Hz B g b W ns nv h x hx);have HM:=J hm;have HG:=J h;have hfew:=h.few;have lk:F1 x:=hx.key (by omega);have gQ:=J (fun W (h:GrP B g b W ns nv)=>h.map.look (h.ok.keys (by omega)) h.ok.1 x lk (t:=78) Tryz.underlying78);have ry:Fe x ns=0:=by unfold Fe;rw[if_neg hin]
 rw[ry,decide_eq_false hin]at gQ;have mP:decide ((ns.length:Int)>=4096)=true:=decide_eq_true (by omega);have X9:decide (4096<=(ns.length:Int))=true:=decide_eq_true (by omega);clear ry hin lk hfew xi hm hx;obtain⟨A,c,rfl⟩:=h.row.shape;clear h;obtain⟨k,a,d,n,t⟩:=x;simp only[ndV]at et gQ ⊢;obtain⟨s,hs⟩:∃s:ByteArray,s=⟨t.toArray⟩:=⟨_,rfl⟩;have af:str t= .string s:=by rw[hs];rfl
 rw[af]at et gQ ⊢;clear hs af;have aA:=J (Blk.new w 95 #[.int .i64 k,.int .i64 a,.int .i64 d,.int .i64 n,.string s]);have ah:=J ((Ext.refl w).alloc (.cells #[.int .i64 k,.int .i64 a,.int .i64 d,.int .i64 n,.string s] 95));obtain⟨w1,aB⟩:∃w1,w1=w.alloc (.cells #[.int .i64 k,.int .i64 a,.int .i64 d,.int .i64 n,.string s] 95):=⟨_,rfl⟩;rw[<-aB]at aA ah;have q0:=aA.o.five;go_enter Tryz.func104,Tryz.ntmps104;go_upto_region 1 with fail;rw[<-aB];clear aB;go_wp2_with fail;refine(et.o w1 (HG.o.keep ah.o) (HM.o.ext ah.o)).mono ?_
 rintro e w2 ⟨rfl,al⟩;have am:=J (ah.o.trans al);have du:=J (HG.o.keep am.o);have aF:=J (aA.o.ext al);clear q0 al;have q0:=aF.o.five;have k0:=du.o.blk.twoG;have lZ:=gQ.o w2 du.o;have tj:=gQ.o w2.drew (du.o.keep (Ext.refl w2).drew);go_wp2_with fail;go_region;go_wp2_with fail;go_ret2;exact⟨rfl,am.o.drew⟩
def XP(g b dm:Nat)(k:Nat):Prop:=k=g\/k=b\/k=dm
structure WkP (ns:List Nd) (env:Env) (B g b bm dm cb:Nat) (w:World) (ms:List Nd) (nv:Value) (f:Int->Option Int):Prop where
 gr:GrP B g b w ms nv
 pre:ns <+: ms
 blk:Blk w cb 159 #[.pointer (some ⟨g,0,none⟩),.map (some bm),.map (some dm)]
 bmap:DR w bm env.length (Cg env)
 map:Fw w dm ns.length f
 done:E5 ns env ms f
 mv:BT w
 lod:B<=dm
 n1:b≠dm
 n2:b≠bm
 n3:bm≠dm
section
variable {ns:List Nd} {env:Env} {B g b bm dm cb:Nat} {w w':World} {ms ms':List Nd} {nv nv':Value} {f f':Int->Option Int}
theorem WkP.keep(h:WkP ns env B g b bm dm cb w ms nv f)(hx:Ext w w'):WkP ns env B g b bm dm cb w' ms nv f:=
 ⟨h.gr.keep hx,h.pre,h.blk.ext hx,AP.ext h.bmap hx,h.map.ext hx,h.done,h.mv.ext hx,h.lod,h.n1,h.n2,h.n3⟩
structure ApP (g b bm dm cb:Nat) (nv:Value):Prop where
 gb:g≠b
 gd:g≠dm
 gm:g≠bm
 gc:g≠cb
 bc:b≠cb
 dc:dm≠cb
 rb:nv.ownBlock≠some b
 rd:nv.ownBlock≠some dm
 rm:nv.ownBlock≠some bm
 rg:nv.ownBlock≠some g
 rc:nv.ownBlock≠some cb
theorem WkP.apart(h:WkP ns env B g b bm dm cb w ms nv f):ApP g b bm dm cb nv:=by
 obtain⟨es,cl,hm⟩:=h.map.1.isMap;obtain⟨es2,cl2,cZ⟩:=AP.isMap h.bmap;obtain⟨es3,cl3,rD,_⟩:=h.gr.map;have hr:=h.gr.row;unfold Ai at hr;exact⟨h.gr.apart3,En h.gr.blk hm,En h.gr.blk cZ,JV h.gr.blk h.blk (by decide),(En h.blk rD).symm,(En h.blk hm).symm,h.gr.apart,Fb hr hm,Fb hr cZ,h.gr.apart2,Eg hr h.blk (by decide)⟩
theorem WkP.put(h:WkP ns env B g b bm dm cb w ms nv f)(hk:KG g b nv nv' w w')(hg:GrP B g b w' ms' nv')(hp:ms <+: ms'):WkP ns env B g b bm dm cb w' ms' nv' f:=by
 have ha:=h.apart;refine⟨hg,h.pre.trans hp,hk.blk h.blk ha.gc.symm ha.bc.symm ha.rc,AP.at h.bmap (hk.block bm (AP.lt h.bmap) ha.gm.symm h.n2.symm ha.rm),h.map.at (hk.block dm h.map.lt ha.gd.symm h.n1.symm ha.rd),h.done.pre hp,h.mv.below (hk.below h.gr) h.gr.low,h.lod,h.n1,h.n2,h.n3⟩
theorem WkP.note(h:WkP ns env B g b bm dm cb w ms nv f){i j:Nat}{e:Ex}(hc:Bt ns env i e)(hr:Rep ms j e):
  ∃w',(Instr.mapUpdate 157 (.map (some dm)) (.int .i64 (i:Int)) (.int .i64 (j:Int))).run Tryz.prog w= .ok () w'/\WkP ns env B g b bm dm cb w' ms nv (fun k=>if k=(i:Int) then some (j:Int) else f k)/\w.grownBy w' (some dm):=by
 have ha:=h.apart;have hi:=hc.lt;have hj:=hr.lt;have h1:=h.gr.few;have h2:=h.pre.length_le;obtain⟨w',bq,hm,hg⟩:=h.map.put (by omega) hi (z:=j) (by omega);have aV:∀k,k<w.heap.size->k≠dm->w'.heap[k]? =w.heap[k]? :=fun k hk hne=>hg.block k hk (fun e=>hne (by injection e))
 have hBw:B<=w.heap.size:=qaR (qbD h.gr.lo h.gr.lt);have VS:Below B w w':=Below.grown (Below.refl B w) hg hBw (fun k hk=>by injection hk with hk;subst hk;exact h.lod);exact⟨w',bq,⟨⟨(aV g h.gr.lt ha.gd).trans h.gr.blk,AD h.gr.row (fun k hk=>aV k (Aj h.gr.row hk) (fun e=>ha.rd (e ▸ hk))),h.gr.map.kept (aV b h.gr.map.lt h.n1),h.gr.lo,h.gr.lo2,h.gr.ok,h.gr.few,h.gr.low⟩,h.pre,(aV cb h.blk.lt ha.dc.symm).trans h.blk,AP.at h.bmap (aV bm (AP.lt h.bmap) h.n3),hm,h.done.put hc hr,h.mv.below VS h.gr.low,h.lod,h.n1,h.n2,h.n3⟩,hg⟩
theorem WkP.far(h:WkP ns env B g b bm dm cb w ms nv f){nb j:Nat}(h0:B<=nb)(h1:nb≠g)(h2:nb≠cb)(h3:nb≠dm)(h4:nb≠b)(h5:nb≠bm)(h6:nv.ownBlock≠some nb)(u:Value):WkP ns env B g b bm dm cb (w.setCell ⟨nb,j,none⟩ u) ms nv f:=by
 have aV:∀k,k≠nb->(w.setCell ⟨nb,j,none⟩ u).heap[k]? =w.heap[k]? :=fun k hk=>Below.heap_setCell _ _ _ k hk
 exact⟨⟨(aV g h1.symm).trans h.gr.blk,AD h.gr.row (fun k hk=>aV k (fun e=>h6 (e ▸ hk))),h.gr.map.kept (aV b h4.symm),h.gr.lo,h.gr.lo2,h.gr.ok,h.gr.few,h.gr.low⟩,h.pre,(aV cb h2.symm).trans h.blk,AP.at h.bmap (aV bm h5.symm),h.map.at (aV dm h3.symm),h.done,h.mv.below (Below.setCell (Below.refl B w) (p:=⟨nb,j,none⟩) h0 u) h.gr.low,h.lod,h.n1,h.n2,h.n3⟩
structure Rp (B g b bm dm cb:Nat) (nv:Value) (nb:Nat):Prop where
 lo:B<=nb
 g:nb≠g
 cb:nb≠cb
 dm:nb≠dm
 b:nb≠b
 bm:nb≠bm
 nv:nv.ownBlock≠some nb
theorem WkP.new(h:WkP ns env B g b bm dm cb w ms nv f){nb:Nat}(hn:w.heap.size<=nb):Rp B g b bm dm cb nv nb:=
 ⟨by have:=h.gr.lt;have:=h.gr.lo;omega,by have:=h.gr.lt;omega,by have:=h.blk.lt;omega,by have:=h.map.lt;omega,by have:=h.gr.map.lt;omega,by have:=AP.lt h.bmap;omega,fun e=>by have:=Aj h.gr.row e;omega⟩
theorem Rp.move{nb:Nat}(h:Rp B g b bm dm cb nv nb)(hk:KX (XP g b dm) nv nv' w w')(hn:nb<w.heap.size):Rp B g b bm dm cb nv' nb:=
 ⟨h.lo,h.g,h.cb,h.dm,h.b,h.bm,fun e=>by
  rcases hk.move nb e with h1|h1
  ·exact h.nv h1
  ·omega⟩
theorem Rp.blk{nb:Nat}{t:TypeId}{cs:Array Value}(h:Rp B g b bm dm cb nv nb)(hk:KX (XP g b dm) nv nv' w w')(hb:Blk w nb t cs):Blk w' nb t cs:=
 hk.blk hb (fun hx=>hx.elim h.g (fun hx=>hx.elim h.b h.dm)) h.nv
end
theorem Blk.threeC{w:World}{g:Nat}{t:TypeId}{a b c:Value}(h:Blk w g t #[a,b,c]):w.cell? ⟨g,0,none⟩=some a/\w.cell? ⟨g,1,none⟩=some b/\w.cell? ⟨g,2,none⟩=some c/\g<w.heap.size:=
 ⟨h.cell 0,h.cell 1,h.cell 2,h.lt⟩
def ClP(ns:List Nd)(env:Env)(B g b bm dm cb:Nat)(ms2:List Nd)(pid:Nat)(nv:Value)(w:World)(r:Ending)(w':World):Prop:=
 ∃nv' z c,r= .returned (.tuple #[.int .i64 z,.int .i64 c])/\KX (XP g b dm) nv nv' w w'/\((ms2.length<=4096/\z=(pid:Int)/\c=0/\∃f',WkP ns env B g b bm dm cb w' ms2 nv' f')\/(4096<ms2.length/\z=0/\c=7))
def PuP(B g b:Nat)(ms2:List Nd)(pid:Nat)(nv:Value)(w:World)(r:Ending)(w':World):Prop:=
 ∃nv' z c,r= .returned (.tuple #[.int .i64 z,.int .i64 c])/\KG g b nv nv' w w'/\((ms2.length<=4096/\z=(pid:Int)/\c=0/\GrP B g b w' ms2 nv')\/(4096<ms2.length/\z=0/\c=7))
theorem JJ(B g b:Nat)(w:World)(ns:List Nd)(nv:Value)(h:GrP B g b w ns nv)(x:Nd)(hx:CA ns.length x)(hm:BT w):
  Calls Tryz.prog 104 #[.pointer (some ⟨g,0,none⟩),ndV x] w (PuP B g b (Bc ns x).2 (Bc ns x).1 nv w):=by
 have hfew:=h.few;by_cases hin:x∈ns
 ·refine(Pc B g b w ns nv h x hx hm hin).mono ?_
  rintro r w' ⟨nv',rfl,hk,hg⟩;exact⟨nv',_,_,rfl,hk,.inl ⟨hg.few,rfl,rfl,hg⟩⟩
 ·by_cases hr:ns.length<4096
  ·refine(Pd B g b w ns nv h x hx hm hin hr).mono ?_
   rintro r w' ⟨nv',rfl,hk,hg⟩;exact⟨nv',_,_,rfl,hk,.inl ⟨hg.few,rfl,rfl,hg⟩⟩
  ·refine(R0 B g b w ns nv h x hx hm hin (by omega)).mono ?_
   rintro r w' ⟨rfl,hx⟩;refine⟨nv,_,_,rfl,KG.of_ext hx,.inr ⟨?_,rfl,rfl⟩⟩;unfold Bc;rw[if_neg hin,qab,qae];omega
theorem OW{ns:List Nd}{env:Env}{B g b bm dm cb:Nat}{w:World}{ms:List Nd}{nv:Value}{f:Int->Option Int}(h:WkP ns env B g b bm dm cb w ms nv f)(i pid:Nat)(hi:i<=100000)(hf:f (i:Int)=some (pid:Int)):
  Calls Tryz.prog 103 #[.pointer (some ⟨cb,0,none⟩),.int .i64 (i:Int)] w (ClP ns env B g b bm dm cb ms pid nv w):=by
 have HS:=J h;obtain⟨c0,c1,c2,cX⟩:=h.blk.threeC;obtain⟨hl,_⟩:=h.map.look (k:=i) (by omega);rw[hf]at hl;simp only[qct,Option.isSome_some]at hl;clear h hf;go_enter Tryz.func103,Tryz.ntmps103;go_wp2_with fail;go_ret2;exact⟨nv,_,_,rfl,KX.of_ext (Ext.refl w),.inl ⟨HS.o.gr.few,rfl,rfl,f,HS.o⟩⟩
theorem OV{ns:List Nd}{env:Env}{B g b bm dm cb:Nat}{w:World}{ms:List Nd}{nv:Value}{f:Int->Option Int}(h:WkP ns env B g b bm dm cb w ms nv f)(i k:Nat)(t:Tx)(hx:ns[i]? =some ⟨(k:Int),0,0,0,t⟩)(hk:k≠2)(ho:Es k t)(hf:f (i:Int)=none)(ms2:List Nd)(pid:Nat)(kg:∀W nv,GrP B g b W ms nv->BT W->Calls Tryz.prog 104 #[.pointer (some ⟨g,0,none⟩),ndV ⟨(k:Int),0,0,0,t⟩] W (PuP B g b ms2 pid nv W))(iW:ms <+: ms2)(e:Ex)(hc:Bt ns env i e)(hr:Rep ms2 pid e):
  Calls Tryz.prog 103 #[.pointer (some ⟨cb,0,none⟩),.int .i64 (i:Int)] w (ClP ns env B g b bm dm cb ms2 pid nv w):=by
 have HS:=J h;have hfew:=h.gr.few;have hi:i<ms.length:=(qai.1 (BD h.pre hx)).1;have hJ:=(qai.1 (BD h.pre hx)).2;have aQ:=J (EU B g b w ms nv h.gr (i:Int));rw[EP hi,hJ]at aQ;have gv:=J (h.new (nb:=w.heap.size) (qad _));obtain⟨c0,c1,c2,cX⟩:=h.blk.threeC;obtain⟨hl,_⟩:=h.map.look (k:=i) (by omega);rw[hf]at hl;simp only[qcd,qbY]at hl;have uA:=J hc;have uy:=J hr;have aE:=J kg;have fX:=J iW;have hk2:((k:Int) == 2)=false:=by rw[beq_eq_false_iff_ne];omega
 have bM:decide ((k:Int)>=5)=false:=decide_eq_false (by have:=ho.few;omega);have dp:decide ((k:Int)>=6)=false:=decide_eq_false (by have:=ho.few;omega);clear h hc hr hJ hi hf hx kg iW ho hk;generalize (k:Int)=kk at *;obtain⟨s,hs⟩:∃s:ByteArray,str t= .string s:=⟨_,rfl⟩;simp only[ndV]at aQ aE;rw[hs]at aQ aE;clear hs;go_enter Tryz.func103,Tryz.ntmps103;go_wp2_with fail;refine aQ.o.mono ?_
 rintro r w2 ⟨rfl,al⟩;have am:=J al;have aX:=J (Blk.new w2 95 #[.int .i64 kk,.int .i64 0,.int .i64 0,.int .i64 0,.string s]);have ag:=J (al.alloc (.cells #[.int .i64 kk,.int .i64 0,.int .i64 0,.int .i64 0,.string s] 95));have fd:=J ((HS.o.keep al).new (nb:=w2.heap.size) (qad _));have gM:Hid (w.heap.size<=w2.heap.size):=J al.size;obtain⟨nb,hnb⟩:∃nb,nb=w2.heap.size:=⟨_,rfl⟩;obtain⟨w3,a5⟩:∃w3,w3=w2.alloc (.cells #[.int .i64 kk,.int .i64 0,.int .i64 0,.int .i64 0,.string s] 95):=⟨_,rfl⟩;rw[<-a5,<-hnb]at aX;rw[<-a5]at ag;rw[<-hnb]at fd gM;clear al aQ gv hl c0 c1 c2 cX;go_upto_region 6 with fail;rw[<-a5,<-hnb];clear a5 hnb;have jY:=J (HS.o.keep ag.o);have ck:Hid (KX (XP g b dm) nv nv w w3):=J (KX.of_ext ag.o);have gv:=J fd.o;have q0:=aX.o.five;obtain⟨c0,c1,c2,cX⟩:=jY.o.blk.threeC;clear fd am HS;have d0:=aX.o.five;obtain⟨c0,c1,c2,cX⟩:=jY.o.blk.threeC;have gB:=J (And.intro c0 aX.o.five);go_upto_region 13 with fail;clear d0 c0 c1 c2 cX;have cT:=J (jY.o.keep ((Ext.refl w3).drew));have aW:=J (aX.o.ext ((Ext.refl w3).drew));have jZ:=J (ck.o.trans (KX.of_ext ((Ext.refl w3).drew)));have gN:=J gv.o;clear jY aX ck;refine wp_region_held_drew (S:=fun w'=>w'.cell? ⟨cb,0,none⟩=some (.pointer (some ⟨g,0,none⟩))/\w'.cell? ⟨nb,0,none⟩=some (.int .i64 kk)/\w'.cell? ⟨nb,1,none⟩=some (.int .i64 0)/\w'.cell? ⟨nb,2,none⟩=some (.int .i64 0)/\w'.cell? ⟨nb,3,none⟩=some (.int .i64 0)/\w'.cell? ⟨nb,4,none⟩=some (.string s)) (by kernel_rfl) (by exact gB.o) (fun hHeld=> ?_);refine' wpAnyH_take (i:=0) (oi:=⟨some 81,_,_,_,_,_⟩) (v:=_) rfl (by kernel_rfl) (by kernel_rfl) (by kernel_rfl) (fun _ _ _ h=>h) (Or.inl ⟨by rfl,?_⟩) hHeld ?_
 rotate_left
 ·(intro w' ab;(try dsimp only at ab);go_simp;(try with_reducible rfl))
 try simp only[pu]
 refine' wpAnyH_take (i:=1) (oi:=⟨some 82,_,_,_,_,_⟩) (v:=_) rfl (by kernel_rfl) (by kernel_rfl) (by kernel_rfl) (fun _ _ _ h=>h) (Or.inl ⟨by rfl,?_⟩) hHeld ?_
 rotate_left
 ·(intro w' ab;(try dsimp only at ab);go_simp;(try with_reducible rfl))
 try simp only[pu]
 refine' wpAnyH_take (i:=2) (oi:=⟨some 83,_,_,_,_,_⟩) (v:=_) rfl (by kernel_rfl) (by kernel_rfl) (by kernel_rfl) (fun _ _ _ h=>h) (Or.inl ⟨by rfl,?_⟩) hHeld ?_
 rotate_left
 ·(intro w' ab;(try dsimp only at ab);go_simp;(try with_reducible rfl))
 try simp only[pu]
 refine' wpAnyH_take (i:=3) (oi:=⟨some 84,_,_,_,_,_⟩) (v:=_) rfl (by kernel_rfl) (by kernel_rfl) (by kernel_rfl) (fun _ _ _ h=>h) (Or.inl ⟨by rfl,?_⟩) hHeld ?_
 rotate_left
 ·(intro w' ab;(try dsimp only at ab);go_simp;(try with_reducible rfl))
 try simp only[pu]
 refine' wpAnyH_take (i:=4) (oi:=⟨some 85,_,_,_,_,_⟩) (v:=_) rfl (by kernel_rfl) (by kernel_rfl) (by kernel_rfl) (fun _ _ _ h=>h) (Or.inl ⟨by rfl,?_⟩) hHeld ?_
 rotate_left
 ·(intro w' ab;(try dsimp only at ab);go_simp;(try with_reducible rfl))
 try simp only[pu]
 refine wpAnyH_ready (rs:=[5]) (by kernel_rfl) (by simp) ?_
 refine AllReadyH.cons (i:=5) rfl (fun K hK=> ?_) AllReadyH.nil;go_simp
 (go_at_call 104;refine(aE.o _ _ cT.o.gr cT.o.mv).mono ?_;rintro e w9 ⟨Xk,z9,c9,rfl,cM,dr⟩;have mw:Hid (w9.cell? ⟨cb,0,none⟩=some (.pointer (some ⟨g,0,none⟩))):=J ((cM.blk cT.o.blk cT.o.apart.gc.symm cT.o.apart.bc.symm cT.o.apart.rc).threeC.1);have fl:=J (cM.blk aW.o gN.o.g gN.o.b gN.o.nv);have iN:=J (jZ.o.trans (KX.of_KG cM (Or.inl rfl) (Or.inr (Or.inl rfl))));have mo:=J (And.intro cM dr);clear cM dr)
 try go_wp2_with fail
 refine hK.out _ _ ?_ (fun hHeld=> ?_)
 ·exact⟨mw.o,fl.o.five⟩
 clear hK K;try simp only[pu]
 refine' wpAnyH_take (i:=6) (oi:=⟨some 80,_,_,_,_,_⟩) (v:=_) rfl (by kernel_rfl) (by kernel_rfl) (by kernel_rfl) (fun _ _ _ h=>h) (Or.inl ⟨by rfl,?_⟩) hHeld ?_
 rotate_left
 ·(intro w' ab;(try dsimp only at ab);go_simp;(try with_reducible rfl))
 try simp only[pu]
 refine' wpAnyH_take (i:=7) (oi:=⟨some 87,_,_,_,_,_⟩) (v:=_) rfl (by kernel_rfl) (by kernel_rfl) (by kernel_rfl) (fun _ _ _ h=>h) (Or.inl ⟨by rfl,?_⟩) hHeld ?_
 rotate_left
 ·(intro w' ab;(try dsimp only at ab);go_simp;(try with_reducible rfl))
 try simp only[pu]
 refine' wpAnyH_take (i:=8) (oi:=⟨some 88,_,_,_,_,_⟩) (v:=_) rfl (by kernel_rfl) (by kernel_rfl) (by kernel_rfl) (fun _ _ _ h=>h) (Or.inl ⟨by rfl,?_⟩) hHeld ?_
 rotate_left
 ·(intro w' ab;(try dsimp only at ab);go_simp;(try with_reducible rfl))
 try simp only[pu]
 refine' wpAnyH_take (i:=9) (oi:=⟨some 10,_,_,_,_,_⟩) (v:=_) rfl (by kernel_rfl) (by kernel_rfl) (by kernel_rfl) (fun _ _ _ h=>h) (Or.inl ⟨by rfl,?_⟩) hHeld ?_
 rotate_left
 ·(intro w' ab;(try dsimp only at ab);go_simp;(try with_reducible rfl))
 try simp only[pu]
 refine' wpAnyH_take (i:=10) (oi:=⟨some 11,_,_,_,_,_⟩) (v:=_) rfl (by kernel_rfl) (by kernel_rfl) (by kernel_rfl) (fun _ _ _ h=>h) (Or.inl ⟨by rfl,?_⟩) hHeld ?_
 rotate_left
 ·(intro w' ab;(try dsimp only at ab);go_simp;(try with_reducible rfl))
 try simp only[pu]
 refine wpAnyH_done (by kernel_rfl) ?_ _
 clear hHeld gB aW aE fl mw;rcases mo.o with ⟨cM,⟨l7,rfl,rfl,dr⟩|⟨l7,rfl,rfl⟩⟩
 ·have jE:=J (cT.o.put cM dr fX.o);clear mo cM dr l7 cT jZ;obtain⟨c0,c1,c2,cX⟩:=jE.o.blk.threeC;obtain⟨zZ,bq,ir,iG⟩:=jE.o.note uA.o uy.o;have HE:=J (And.intro ir (iN.o.grown iG (Or.inr (Or.inr rfl))));have dR:=J jE.o.gr.few;clear ir iG jE iN;go_wp2_with fail;go_ret2;exact⟨_,_,_,rfl,HE.o.2,.inl ⟨dR.o,rfl,rfl,_,HE.o.1⟩⟩
 ·have ut:=J l7;clear mo cM l7 cT jZ;go_wp2_with fail;go_ret2;exact⟨_,_,_,rfl,iN.o,.inr ⟨ut.o,rfl,rfl⟩⟩
theorem SK{ns:List Nd}{env:Env}{B g b bm dm cb:Nat}{w:World}{ms:List Nd}{nv:Value}{f:Int->Option Int}(h:WkP ns env B g b bm dm cb w ms nv f)(i j k:Nat)(n:Int)(hx:ns[i]? =some ⟨(k:Int),(j:Int),0,n,[]⟩)(ho:Nv k n)(hf:f (i:Int)=none)(sy ms2:List Nd)(j1 pid:Nat)(ih1:(∀W nv f,WkP ns env B g b bm dm cb W ms nv f->Calls Tryz.prog 103 #[.pointer (some ⟨cb,0,none⟩),.int .i64 (j:Int)] W (ClP ns env B g b bm dm cb sy j1 nv W)))(kg:∀W nv,GrP B g b W sy nv->BT W->Calls Tryz.prog 104 #[.pointer (some ⟨g,0,none⟩),ndV ⟨(k:Int),(j1:Int),0,n,[]⟩] W (PuP B g b ms2 pid nv W))(iW:sy <+: ms2)(e:Ex)(hc:Bt ns env i e)(hr:Rep ms2 pid e):
  Calls Tryz.prog 103 #[.pointer (some ⟨cb,0,none⟩),.int .i64 (i:Int)] w (ClP ns env B g b bm dm cb ms2 pid nv w):=by
 have HS:=J h;have hfew:=h.gr.few;have hi:i<ms.length:=(qai.1 (BD h.pre hx)).1;have hJ:=(qai.1 (BD h.pre hx)).2;have aQ:=J (EU B g b w ms nv h.gr (i:Int));rw[EP hi,hJ]at aQ;have gv:=J (h.new (nb:=w.heap.size) (qad _));obtain⟨c0,c1,c2,cX⟩:=h.blk.threeC;obtain⟨hl,_⟩:=h.map.look (k:=i) (by omega);rw[hf]at hl;simp only[qcd,qbY]at hl;have uA:=J hc;have uy:=J hr;have aE:=J kg;have fX:=J iW;have eP:=J ih1;have hk2:((k:Int) == 2)=false:=by rw[beq_eq_false_iff_ne];have:=ho.1;omega
 have bM:decide ((k:Int)>=5)=true:=decide_eq_true (by have:=ho.1;omega);have wW:decide ((k:Int)>=6)=false\/(decide ((k:Int)>=6)=true/\decide ((k:Int)<=9)=false):=by
  rcases ho.1 with h5|h5
  ·exact .inl (decide_eq_false (by omega))
  ·exact .inr ⟨decide_eq_true (by omega),decide_eq_false (by omega)⟩
 have yE:=J wW;clear h hc hr hJ hi hf hx kg iW ho ih1 wW;generalize (k:Int)=kk at *;obtain⟨s,hs⟩:∃s:ByteArray,str ([]:Tx)= .string s:=⟨_,rfl⟩;simp only[ndV]at aQ aE;rw[hs]at aQ aE;clear hs;go_enter Tryz.func103,Tryz.ntmps103;go_wp2_with fail;refine aQ.o.mono ?_
 rintro r w2 ⟨rfl,al⟩;have am:=J al;have aX:=J (Blk.new w2 95 #[.int .i64 kk,.int .i64 (j:Int),.int .i64 0,.int .i64 n,.string s]);have ag:=J (al.alloc (.cells #[.int .i64 kk,.int .i64 (j:Int),.int .i64 0,.int .i64 n,.string s] 95));have fd:=J ((HS.o.keep al).new (nb:=w2.heap.size) (qad _));have gM:Hid (w.heap.size<=w2.heap.size):=J al.size;obtain⟨nb,hnb⟩:∃nb,nb=w2.heap.size:=⟨_,rfl⟩;obtain⟨w3,a5⟩:∃w3,w3=w2.alloc (.cells #[.int .i64 kk,.int .i64 (j:Int),.int .i64 0,.int .i64 n,.string s] 95):=⟨_,rfl⟩;rw[<-a5,<-hnb]at aX;rw[<-a5]at ag;rw[<-hnb]at fd gM;clear al aQ gv hl c0 c1 c2 cX;go_upto_region 6 with fail;rw[<-a5,<-hnb];clear a5 hnb;have jY:=J (HS.o.keep ag.o);have ck:Hid (KX (XP g b dm) nv nv w w3):=J (KX.of_ext ag.o);have gv:=J fd.o;have q0:=aX.o.five;obtain⟨c0,c1,c2,cX⟩:=jY.o.blk.threeC;clear fd am HS;go_wp2_with fail;refine(eP.o w3 _ _ jY.o).mono ?_
 rintro r w6 ⟨vq,z6,e6,rfl,dp,qn⟩;have fW:=J (gv.o.move dp aX.o.lt);have e7:=gv.o.blk dp aX.o;have d0:=e7.five;have df:=e7.frozen 1;have p5:=e7.lt;rcases qn with ⟨qC,rfl,rfl,f6,qn⟩|⟨qC,rfl,rfl⟩
 rotate_left
 ·have bK:=J (e7.set_ 1 (.int .i64 0));have cN:=J ((ck.o.trans dp).setN (d:=nb) (j:=1) gM.o (.int .i64 0));have WR:=J ((fun h=>qaj h fX.o.length_le) qC);obtain⟨sm,cY⟩:∃x,x=w6.setCell ⟨nb,1,none⟩ (.int .i64 0):=⟨_,rfl⟩;rw[<-cY]at bK cN;clear dp e7 qC eP jY aX ck;go_upto_region 10 with fail;rw[<-cY];clear cY d0 df p5;have d0:=bK.o.five;go_wp2_with fail;go_ret2;exact⟨_,_,_,rfl,cN.o,.inr ⟨WR.o,rfl,rfl⟩⟩
 have bK:=J (e7.set_ 1 (.int .i64 (j1:Int)));have dY:=J (qn.far fW.o.lo fW.o.g fW.o.cb fW.o.dm fW.o.b fW.o.bm fW.o.nv (j:=1) (.int .i64 (j1:Int)));have cN:=J ((ck.o.trans dp).setN (d:=nb) (j:=1) gM.o (.int .i64 (j1:Int)));obtain⟨sm,cY⟩:∃x,x=w6.setCell ⟨nb,1,none⟩ (.int .i64 (j1:Int)):=⟨_,rfl⟩;rw[<-cY]at bK dY cN;clear qn dp e7 qC eP jY aX ck;go_upto_region 10 with fail;rw[<-cY];clear cY d0 df p5;have d0:=bK.o.five;rcases yE.o with dp|⟨dp,cM⟩
 all_goals
  clear yE gv c0 c1 c2 cX q0;clear d0;have d0:=bK.o.five;obtain⟨c0,c1,c2,cX⟩:=dY.o.blk.threeC;have gB:=J (And.intro c0 bK.o.five);go_upto_region 13 with fail;clear d0 c0 c1 c2 cX;have cT:=J (dY.o.keep ((Ext.refl sm).drew));have aW:=J (bK.o.ext ((Ext.refl sm).drew));have jZ:=J (cN.o.trans (KX.of_ext ((Ext.refl sm).drew)));have gN:=J fW.o;clear dY bK cN;refine wp_region_held_drew (S:=fun w'=>w'.cell? ⟨cb,0,none⟩=some (.pointer (some ⟨g,0,none⟩))/\w'.cell? ⟨nb,0,none⟩=some (.int .i64 kk)/\w'.cell? ⟨nb,1,none⟩=some (.int .i64 (j1:Int))/\w'.cell? ⟨nb,2,none⟩=some (.int .i64 0)/\w'.cell? ⟨nb,3,none⟩=some (.int .i64 n)/\w'.cell? ⟨nb,4,none⟩=some (.string s)) (by kernel_rfl) (by exact gB.o) (fun hHeld=> ?_);refine' wpAnyH_take (i:=0) (oi:=⟨some 81,_,_,_,_,_⟩) (v:=_) rfl (by kernel_rfl) (by kernel_rfl) (by kernel_rfl) (fun _ _ _ h=>h) (Or.inl ⟨by rfl,?_⟩) hHeld ?_
  rotate_left
  ·(intro w' ab;(try dsimp only at ab);go_simp;(try with_reducible rfl))
  try simp only[pu]
  refine' wpAnyH_take (i:=1) (oi:=⟨some 82,_,_,_,_,_⟩) (v:=_) rfl (by kernel_rfl) (by kernel_rfl) (by kernel_rfl) (fun _ _ _ h=>h) (Or.inl ⟨by rfl,?_⟩) hHeld ?_
  rotate_left
  ·(intro w' ab;(try dsimp only at ab);go_simp;(try with_reducible rfl))
  try simp only[pu]
  refine' wpAnyH_take (i:=2) (oi:=⟨some 83,_,_,_,_,_⟩) (v:=_) rfl (by kernel_rfl) (by kernel_rfl) (by kernel_rfl) (fun _ _ _ h=>h) (Or.inl ⟨by rfl,?_⟩) hHeld ?_
  rotate_left
  ·(intro w' ab;(try dsimp only at ab);go_simp;(try with_reducible rfl))
  try simp only[pu]
  refine' wpAnyH_take (i:=3) (oi:=⟨some 84,_,_,_,_,_⟩) (v:=_) rfl (by kernel_rfl) (by kernel_rfl) (by kernel_rfl) (fun _ _ _ h=>h) (Or.inl ⟨by rfl,?_⟩) hHeld ?_
  rotate_left
  ·(intro w' ab;(try dsimp only at ab);go_simp;(try with_reducible rfl))
  try simp only[pu]
  refine' wpAnyH_take (i:=4) (oi:=⟨some 85,_,_,_,_,_⟩) (v:=_) rfl (by kernel_rfl) (by kernel_rfl) (by kernel_rfl) (fun _ _ _ h=>h) (Or.inl ⟨by rfl,?_⟩) hHeld ?_
  rotate_left
  ·(intro w' ab;(try dsimp only at ab);go_simp;(try with_reducible rfl))
  try simp only[pu]
  refine wpAnyH_ready (rs:=[5]) (by kernel_rfl) (by simp) ?_
  refine AllReadyH.cons (i:=5) rfl (fun K hK=> ?_) AllReadyH.nil;go_simp
  (go_at_call 104;refine(aE.o _ _ cT.o.gr cT.o.mv).mono ?_;rintro e w9 ⟨Xk,z9,c9,rfl,cM,dr⟩;have mw:Hid (w9.cell? ⟨cb,0,none⟩=some (.pointer (some ⟨g,0,none⟩))):=J ((cM.blk cT.o.blk cT.o.apart.gc.symm cT.o.apart.bc.symm cT.o.apart.rc).threeC.1);have fl:=J (cM.blk aW.o gN.o.g gN.o.b gN.o.nv);have iN:=J (jZ.o.trans (KX.of_KG cM (Or.inl rfl) (Or.inr (Or.inl rfl))));have mo:=J (And.intro cM dr);clear cM dr)
  try go_wp2_with fail
  refine hK.out _ _ ?_ (fun hHeld=> ?_)
  ·exact⟨mw.o,fl.o.five⟩
  clear hK K;try simp only[pu]
  refine' wpAnyH_take (i:=6) (oi:=⟨some 80,_,_,_,_,_⟩) (v:=_) rfl (by kernel_rfl) (by kernel_rfl) (by kernel_rfl) (fun _ _ _ h=>h) (Or.inl ⟨by rfl,?_⟩) hHeld ?_
  rotate_left
  ·(intro w' ab;(try dsimp only at ab);go_simp;(try with_reducible rfl))
  try simp only[pu]
  refine' wpAnyH_take (i:=7) (oi:=⟨some 87,_,_,_,_,_⟩) (v:=_) rfl (by kernel_rfl) (by kernel_rfl) (by kernel_rfl) (fun _ _ _ h=>h) (Or.inl ⟨by rfl,?_⟩) hHeld ?_
  rotate_left
  ·(intro w' ab;(try dsimp only at ab);go_simp;(try with_reducible rfl))
  try simp only[pu]
  refine' wpAnyH_take (i:=8) (oi:=⟨some 88,_,_,_,_,_⟩) (v:=_) rfl (by kernel_rfl) (by kernel_rfl) (by kernel_rfl) (fun _ _ _ h=>h) (Or.inl ⟨by rfl,?_⟩) hHeld ?_
  rotate_left
  ·(intro w' ab;(try dsimp only at ab);go_simp;(try with_reducible rfl))
  try simp only[pu]
  refine' wpAnyH_take (i:=9) (oi:=⟨some 10,_,_,_,_,_⟩) (v:=_) rfl (by kernel_rfl) (by kernel_rfl) (by kernel_rfl) (fun _ _ _ h=>h) (Or.inl ⟨by rfl,?_⟩) hHeld ?_
  rotate_left
  ·(intro w' ab;(try dsimp only at ab);go_simp;(try with_reducible rfl))
  try simp only[pu]
  refine' wpAnyH_take (i:=10) (oi:=⟨some 11,_,_,_,_,_⟩) (v:=_) rfl (by kernel_rfl) (by kernel_rfl) (by kernel_rfl) (fun _ _ _ h=>h) (Or.inl ⟨by rfl,?_⟩) hHeld ?_
  rotate_left
  ·(intro w' ab;(try dsimp only at ab);go_simp;(try with_reducible rfl))
  try simp only[pu]
  refine wpAnyH_done (by kernel_rfl) ?_ _
  clear hHeld gB aW aE fl mw;rcases mo.o with ⟨cM,⟨l7,rfl,rfl,dr⟩|⟨l7,rfl,rfl⟩⟩
  ·have jE:=J (cT.o.put cM dr fX.o);clear mo cM dr l7 cT jZ;obtain⟨c0,c1,c2,cX⟩:=jE.o.blk.threeC;obtain⟨zZ,bq,ir,iG⟩:=jE.o.note uA.o uy.o;have HE:=J (And.intro ir (iN.o.grown iG (Or.inr (Or.inr rfl))));have dR:=J jE.o.gr.few;clear ir iG jE iN;go_wp2_with fail;go_ret2;exact⟨_,_,_,rfl,HE.o.2,.inl ⟨dR.o,rfl,rfl,_,HE.o.1⟩⟩
  ·have ut:=J l7;clear mo cM l7 cT jZ;go_wp2_with fail;go_ret2;exact⟨_,_,_,rfl,iN.o,.inr ⟨ut.o,rfl,rfl⟩⟩
theorem Q9{ns:List Nd}{env:Env}{B g b bm dm cb:Nat}{w:World}{ms:List Nd}{nv:Value}{f:Int->Option Int}(h:WkP ns env B g b bm dm cb w ms nv f)(i j q k:Nat)(hx:ns[i]? =some ⟨(k:Int),(j:Int),(q:Int),0,[]⟩)(ho:6<=k/\k<=9)(hf:f (i:Int)=none)(sy qi ms2:List Nd)(j1 y1 pid:Nat)(dV:sy <+: qi)(ih1:(∀W nv f,WkP ns env B g b bm dm cb W ms nv f->Calls Tryz.prog 103 #[.pointer (some ⟨cb,0,none⟩),.int .i64 (j:Int)] W (ClP ns env B g b bm dm cb sy j1 nv W)))(ih2:(∀W nv f,WkP ns env B g b bm dm cb W sy nv f->Calls Tryz.prog 103 #[.pointer (some ⟨cb,0,none⟩),.int .i64 (q:Int)] W (ClP ns env B g b bm dm cb qi y1 nv W)))(kg:∀W nv,GrP B g b W qi nv->BT W->Calls Tryz.prog 104 #[.pointer (some ⟨g,0,none⟩),ndV ⟨(k:Int),(j1:Int),(y1:Int),0,[]⟩] W (PuP B g b ms2 pid nv W))(iW:qi <+: ms2)(e:Ex)(hc:Bt ns env i e)(hr:Rep ms2 pid e):
  Calls Tryz.prog 103 #[.pointer (some ⟨cb,0,none⟩),.int .i64 (i:Int)] w (ClP ns env B g b bm dm cb ms2 pid nv w):=by
 have kF:=J dV;clear dV;have HS:=J h;have hfew:=h.gr.few;have hi:i<ms.length:=(qai.1 (BD h.pre hx)).1;have hJ:=(qai.1 (BD h.pre hx)).2;have aQ:=J (EU B g b w ms nv h.gr (i:Int));rw[EP hi,hJ]at aQ;have gv:=J (h.new (nb:=w.heap.size) (qad _));obtain⟨c0,c1,c2,cX⟩:=h.blk.threeC;obtain⟨hl,_⟩:=h.map.look (k:=i) (by omega);rw[hf]at hl;simp only[qcd,qbY]at hl;have uA:=J hc;have uy:=J hr;have aE:=J kg;have fX:=J iW;have eP:=J ih1;have fG:=J ih2;have hk2:((k:Int) == 2)=false:=by rw[beq_eq_false_iff_ne];omega
 have bM:decide ((k:Int)>=5)=true:=decide_eq_true (by omega);have dp:decide ((k:Int)>=6)=true:=decide_eq_true (by omega);have cM:decide ((k:Int)<=9)=true:=decide_eq_true (by omega);clear h hc hr hJ hi hf hx kg iW ho ih1 ih2;generalize (k:Int)=kk at *;obtain⟨s,hs⟩:∃s:ByteArray,str ([]:Tx)= .string s:=⟨_,rfl⟩;simp only[ndV]at aQ aE;rw[hs]at aQ aE;clear hs;go_enter Tryz.func103,Tryz.ntmps103;go_wp2_with fail;refine aQ.o.mono ?_
 rintro r w2 ⟨rfl,al⟩;have am:=J al;have aX:=J (Blk.new w2 95 #[.int .i64 kk,.int .i64 (j:Int),.int .i64 (q:Int),.int .i64 0,.string s]);have ag:=J (al.alloc (.cells #[.int .i64 kk,.int .i64 (j:Int),.int .i64 (q:Int),.int .i64 0,.string s] 95));have fd:=J ((HS.o.keep al).new (nb:=w2.heap.size) (qad _));have gM:Hid (w.heap.size<=w2.heap.size):=J al.size;obtain⟨nb,hnb⟩:∃nb,nb=w2.heap.size:=⟨_,rfl⟩;obtain⟨w3,a5⟩:∃w3,w3=w2.alloc (.cells #[.int .i64 kk,.int .i64 (j:Int),.int .i64 (q:Int),.int .i64 0,.string s] 95):=⟨_,rfl⟩;rw[<-a5,<-hnb]at aX;rw[<-a5]at ag;rw[<-hnb]at fd gM;clear al aQ gv hl c0 c1 c2 cX;go_upto_region 6 with fail;rw[<-a5,<-hnb];clear a5 hnb;have jY:=J (HS.o.keep ag.o);have ck:Hid (KX (XP g b dm) nv nv w w3):=J (KX.of_ext ag.o);have gv:=J fd.o;have q0:=aX.o.five;obtain⟨c0,c1,c2,cX⟩:=jY.o.blk.threeC;clear fd am HS;go_wp2_with fail;refine(eP.o w3 _ _ jY.o).mono ?_
 rintro r w6 ⟨vq,z6,e6,rfl,dp,qn⟩;have fW:=J (gv.o.move dp aX.o.lt);have e7:=gv.o.blk dp aX.o;have d0:=e7.five;have df:=e7.frozen 1;have p5:=e7.lt;rcases qn with ⟨qC,rfl,rfl,f6,qn⟩|⟨qC,rfl,rfl⟩
 rotate_left
 ·have bK:=J (e7.set_ 1 (.int .i64 0));have cN:=J ((ck.o.trans dp).setN (d:=nb) (j:=1) gM.o (.int .i64 0));have WR:=J ((fun h=>qaj h (kF.o.trans fX.o).length_le) qC);obtain⟨sm,cY⟩:∃x,x=w6.setCell ⟨nb,1,none⟩ (.int .i64 0):=⟨_,rfl⟩;rw[<-cY]at bK cN;clear dp e7 qC eP jY aX ck;go_upto_region 10 with fail;rw[<-cY];clear cY d0 df p5;have d0:=bK.o.five;go_wp2_with fail;go_ret2;exact⟨_,_,_,rfl,cN.o,.inr ⟨WR.o,rfl,rfl⟩⟩
 have bK:=J (e7.set_ 1 (.int .i64 (j1:Int)));have dY:=J (qn.far fW.o.lo fW.o.g fW.o.cb fW.o.dm fW.o.b fW.o.bm fW.o.nv (j:=1) (.int .i64 (j1:Int)));have cN:=J ((ck.o.trans dp).setN (d:=nb) (j:=1) gM.o (.int .i64 (j1:Int)));obtain⟨sm,cY⟩:∃x,x=w6.setCell ⟨nb,1,none⟩ (.int .i64 (j1:Int)):=⟨_,rfl⟩;rw[<-cY]at bK dY cN;clear qn dp e7 qC eP jY aX ck;go_upto_region 10 with fail;rw[<-cY];clear cY d0 df p5;have d0:=bK.o.five;clear gv c0 c1 c2 cX q0;go_wp2_with fail;refine(fG.o sm _ _ dY.o).mono ?_
 rintro r w8 ⟨nQ,z8,e8,rfl,ch,kS⟩;have k9:=J (fW.o.move ch bK.o.lt);have lj:=fW.o.blk ch bK.o;have d0:=lj.five;have df:=lj.frozen 2;have p5:=lj.lt;rcases kS with ⟨el,rfl,rfl,f8,kS⟩|⟨el,rfl,rfl⟩
 rotate_left
 ·have jM:=J (lj.set_ 2 (.int .i64 0));have gy:=J ((cN.o.trans ch).setN (d:=nb) (j:=2) gM.o (.int .i64 0));have ml:=J ((fun h=>qaj h fX.o.length_le) el);obtain⟨y6,dx⟩:∃x,x=w8.setCell ⟨nb,2,none⟩ (.int .i64 0):=⟨_,rfl⟩;rw[<-dx]at jM gy;clear ch lj el fG dY bK cN;go_upto_region 12 with fail;rw[<-dx];clear dx d0 df p5;have d0:=jM.o.five;go_wp2_with fail;go_ret2;exact⟨_,_,_,rfl,gy.o,.inr ⟨ml.o,rfl,rfl⟩⟩
 have jM:=J (lj.set_ 2 (.int .i64 (y1:Int)));have pn:=J (kS.far k9.o.lo k9.o.g k9.o.cb k9.o.dm k9.o.b k9.o.bm k9.o.nv (j:=2) (.int .i64 (y1:Int)));have gy:=J ((cN.o.trans ch).setN (d:=nb) (j:=2) gM.o (.int .i64 (y1:Int)));obtain⟨y6,dx⟩:∃x,x=w8.setCell ⟨nb,2,none⟩ (.int .i64 (y1:Int)):=⟨_,rfl⟩;rw[<-dx]at jM pn gy;clear kS ch lj el fG dY bK cN;go_upto_region 12 with fail;rw[<-dx];clear dx d0 df p5;have d0:=jM.o.five;clear fW d0;have d0:=jM.o.five;obtain⟨c0,c1,c2,cX⟩:=pn.o.blk.threeC;have gB:=J (And.intro c0 jM.o.five);go_upto_region 13 with fail;clear d0 c0 c1 c2 cX;have cT:=J (pn.o.keep ((Ext.refl y6).drew));have aW:=J (jM.o.ext ((Ext.refl y6).drew));have jZ:=J (gy.o.trans (KX.of_ext ((Ext.refl y6).drew)));have gN:=J k9.o;clear pn jM gy;refine wp_region_held_drew (S:=fun w'=>w'.cell? ⟨cb,0,none⟩=some (.pointer (some ⟨g,0,none⟩))/\w'.cell? ⟨nb,0,none⟩=some (.int .i64 kk)/\w'.cell? ⟨nb,1,none⟩=some (.int .i64 (j1:Int))/\w'.cell? ⟨nb,2,none⟩=some (.int .i64 (y1:Int))/\w'.cell? ⟨nb,3,none⟩=some (.int .i64 0)/\w'.cell? ⟨nb,4,none⟩=some (.string s)) (by kernel_rfl) (by exact gB.o) (fun hHeld=> ?_);refine' wpAnyH_take (i:=0) (oi:=⟨some 81,_,_,_,_,_⟩) (v:=_) rfl (by kernel_rfl) (by kernel_rfl) (by kernel_rfl) (fun _ _ _ h=>h) (Or.inl ⟨by rfl,?_⟩) hHeld ?_
 rotate_left
 ·(intro w' ab;(try dsimp only at ab);go_simp;(try with_reducible rfl))
 try simp only[pu]
 refine' wpAnyH_take (i:=1) (oi:=⟨some 82,_,_,_,_,_⟩) (v:=_) rfl (by kernel_rfl) (by kernel_rfl) (by kernel_rfl) (fun _ _ _ h=>h) (Or.inl ⟨by rfl,?_⟩) hHeld ?_
 rotate_left
 ·(intro w' ab;(try dsimp only at ab);go_simp;(try with_reducible rfl))
 try simp only[pu]
 refine' wpAnyH_take (i:=2) (oi:=⟨some 83,_,_,_,_,_⟩) (v:=_) rfl (by kernel_rfl) (by kernel_rfl) (by kernel_rfl) (fun _ _ _ h=>h) (Or.inl ⟨by rfl,?_⟩) hHeld ?_
 rotate_left
 ·(intro w' ab;(try dsimp only at ab);go_simp;(try with_reducible rfl))
 try simp only[pu]
 refine' wpAnyH_take (i:=3) (oi:=⟨some 84,_,_,_,_,_⟩) (v:=_) rfl (by kernel_rfl) (by kernel_rfl) (by kernel_rfl) (fun _ _ _ h=>h) (Or.inl ⟨by rfl,?_⟩) hHeld ?_
 rotate_left
 ·(intro w' ab;(try dsimp only at ab);go_simp;(try with_reducible rfl))
 try simp only[pu]
 refine' wpAnyH_take (i:=4) (oi:=⟨some 85,_,_,_,_,_⟩) (v:=_) rfl (by kernel_rfl) (by kernel_rfl) (by kernel_rfl) (fun _ _ _ h=>h) (Or.inl ⟨by rfl,?_⟩) hHeld ?_
 rotate_left
 ·(intro w' ab;(try dsimp only at ab);go_simp;(try with_reducible rfl))
 try simp only[pu]
 refine wpAnyH_ready (rs:=[5]) (by kernel_rfl) (by simp) ?_
 refine AllReadyH.cons (i:=5) rfl (fun K hK=> ?_) AllReadyH.nil;go_simp
 (go_at_call 104;refine(aE.o _ _ cT.o.gr cT.o.mv).mono ?_;rintro e w9 ⟨Xk,z9,c9,rfl,cM,dr⟩;have mw:Hid (w9.cell? ⟨cb,0,none⟩=some (.pointer (some ⟨g,0,none⟩))):=J ((cM.blk cT.o.blk cT.o.apart.gc.symm cT.o.apart.bc.symm cT.o.apart.rc).threeC.1);have fl:=J (cM.blk aW.o gN.o.g gN.o.b gN.o.nv);have iN:=J (jZ.o.trans (KX.of_KG cM (Or.inl rfl) (Or.inr (Or.inl rfl))));have mo:=J (And.intro cM dr);clear cM dr)
 try go_wp2_with fail
 refine hK.out _ _ ?_ (fun hHeld=> ?_)
 ·exact⟨mw.o,fl.o.five⟩
 clear hK K;try simp only[pu]
 refine' wpAnyH_take (i:=6) (oi:=⟨some 80,_,_,_,_,_⟩) (v:=_) rfl (by kernel_rfl) (by kernel_rfl) (by kernel_rfl) (fun _ _ _ h=>h) (Or.inl ⟨by rfl,?_⟩) hHeld ?_
 rotate_left
 ·(intro w' ab;(try dsimp only at ab);go_simp;(try with_reducible rfl))
 try simp only[pu]
 refine' wpAnyH_take (i:=7) (oi:=⟨some 87,_,_,_,_,_⟩) (v:=_) rfl (by kernel_rfl) (by kernel_rfl) (by kernel_rfl) (fun _ _ _ h=>h) (Or.inl ⟨by rfl,?_⟩) hHeld ?_
 rotate_left
 ·(intro w' ab;(try dsimp only at ab);go_simp;(try with_reducible rfl))
 try simp only[pu]
 refine' wpAnyH_take (i:=8) (oi:=⟨some 88,_,_,_,_,_⟩) (v:=_) rfl (by kernel_rfl) (by kernel_rfl) (by kernel_rfl) (fun _ _ _ h=>h) (Or.inl ⟨by rfl,?_⟩) hHeld ?_
 rotate_left
 ·(intro w' ab;(try dsimp only at ab);go_simp;(try with_reducible rfl))
 try simp only[pu]
 refine' wpAnyH_take (i:=9) (oi:=⟨some 10,_,_,_,_,_⟩) (v:=_) rfl (by kernel_rfl) (by kernel_rfl) (by kernel_rfl) (fun _ _ _ h=>h) (Or.inl ⟨by rfl,?_⟩) hHeld ?_
 rotate_left
 ·(intro w' ab;(try dsimp only at ab);go_simp;(try with_reducible rfl))
 try simp only[pu]
 refine' wpAnyH_take (i:=10) (oi:=⟨some 11,_,_,_,_,_⟩) (v:=_) rfl (by kernel_rfl) (by kernel_rfl) (by kernel_rfl) (fun _ _ _ h=>h) (Or.inl ⟨by rfl,?_⟩) hHeld ?_
 rotate_left
 ·(intro w' ab;(try dsimp only at ab);go_simp;(try with_reducible rfl))
 try simp only[pu]
 refine wpAnyH_done (by kernel_rfl) ?_ _
 clear hHeld gB aW aE fl mw;rcases mo.o with ⟨cM,⟨l7,rfl,rfl,dr⟩|⟨l7,rfl,rfl⟩⟩
 ·have jE:=J (cT.o.put cM dr fX.o);clear mo cM dr l7 cT jZ;obtain⟨c0,c1,c2,cX⟩:=jE.o.blk.threeC;obtain⟨zZ,bq,ir,iG⟩:=jE.o.note uA.o uy.o;have HE:=J (And.intro ir (iN.o.grown iG (Or.inr (Or.inr rfl))));have dR:=J jE.o.gr.few;clear ir iG jE iN;go_wp2_with fail;go_ret2;exact⟨_,_,_,rfl,HE.o.2,.inl ⟨dR.o,rfl,rfl,_,HE.o.1⟩⟩
 ·have ut:=J l7;clear mo cM l7 cT jZ;go_wp2_with fail;go_ret2;exact⟨_,_,_,rfl,iN.o,.inr ⟨ut.o,rfl,rfl⟩⟩
theorem OU{ns:List Nd}{env:Env}{B g b bm dm cb:Nat}{w:World}{ms:List Nd}{nv:Value}{f:Int->Option Int}(h:WkP ns env B g b bm dm cb w ms nv f)(i m:Nat)(t:Tx)(hx:ns[i]? =some ⟨2,0,0,0,t⟩)(Vz:Cg env t=some (m:Int))(hf:f (i:Int)=none)(ms2:List Nd)(pid:Nat)(ih1:(∀W nv f,WkP ns env B g b bm dm cb W ms nv f->Calls Tryz.prog 103 #[.pointer (some ⟨cb,0,none⟩),.int .i64 (m:Int)] W (ClP ns env B g b bm dm cb ms2 pid nv W)))(e:Ex)(hc:Bt ns env i e)(hr:Rep ms2 pid e):
  Calls Tryz.prog 103 #[.pointer (some ⟨cb,0,none⟩),.int .i64 (i:Int)] w (ClP ns env B g b bm dm cb ms2 pid nv w):=by
 have HS:=J h;have hfew:=h.gr.few;have hi:i<ms.length:=(qai.1 (BD h.pre hx)).1;have hJ:=(qai.1 (BD h.pre hx)).2;have aQ:=J (EU B g b w ms nv h.gr (i:Int));rw[EP hi,hJ]at aQ;have gv:=J (h.new (nb:=w.heap.size) (qad _));obtain⟨c0,c1,c2,cX⟩:=h.blk.threeC;obtain⟨hl,_⟩:=h.map.look (k:=i) (by omega);rw[hf]at hl;simp only[qcd,qbY]at hl;have uA:=J hc;have uy:=J hr;have eP:=J ih1;have gT:t.length<=400:=by
  have an:=h.gr.ok.2 i _ (BD h.pre hx);exact an.text
 have kO:=J (fun W (hb:DR W bm env.length (Cg env))=>(hb.look t (by unfold maxLen;omega)).2);rw[Vz]at kO;simp only[qct]at kO;clear h hc hr hJ hi hf hx ih1 Vz gT;obtain⟨s,hs⟩:∃s:ByteArray,str t= .string s:=⟨_,rfl⟩;simp only[ndV]at aQ;rw[hs]at aQ kO;clear hs;go_enter Tryz.func103,Tryz.ntmps103;go_wp2_with fail;refine aQ.o.mono ?_
 rintro r w2 ⟨rfl,al⟩;have am:=J al;have aX:=J (Blk.new w2 95 #[.int .i64 2,.int .i64 0,.int .i64 0,.int .i64 0,.string s]);have ag:=J (al.alloc (.cells #[.int .i64 2,.int .i64 0,.int .i64 0,.int .i64 0,.string s] 95));have fd:=J ((HS.o.keep al).new (nb:=w2.heap.size) (qad _));have gM:Hid (w.heap.size<=w2.heap.size):=J al.size;obtain⟨nb,hnb⟩:∃nb,nb=w2.heap.size:=⟨_,rfl⟩;obtain⟨w3,a5⟩:∃w3,w3=w2.alloc (.cells #[.int .i64 2,.int .i64 0,.int .i64 0,.int .i64 0,.string s] 95):=⟨_,rfl⟩;rw[<-a5,<-hnb]at aX;rw[<-a5]at ag;rw[<-hnb]at fd gM;clear al aQ gv hl c0 c1 c2 cX;go_upto_region 6 with fail;rw[<-a5,<-hnb];clear a5 hnb;have jY:=J (HS.o.keep ag.o);have ck:Hid (KX (XP g b dm) nv nv w w3):=J (KX.of_ext ag.o);have gv:=J fd.o;obtain⟨q0,q1,q2,q3,q4⟩:=aX.o.five;obtain⟨c0,c1,c2,cX⟩:=jY.o.blk.threeC;clear fd am HS;have gB:=J (And.intro c1 q4);go_upto_region 7 with fail;clear q0 q1 q2 q3 q4 c0 c1 c2 cX;have cT:=J (jY.o.keep ((Ext.refl w3).drew));have aW:=J (aX.o.ext ((Ext.refl w3).drew));have jZ:=J (ck.o.trans (KX.of_ext ((Ext.refl w3).drew)));have lZ:=kO.o w3.drew cT.o.bmap;clear jY aX ck ag kO;refine wp_region_held_drew (S:=fun w'=>w'.cell? ⟨cb,1,none⟩=some (.map (some bm))/\w'.cell? ⟨nb,4,none⟩=some (.string s)) (by kernel_rfl) (by exact gB.o) (fun hHeld=> ?_);refine' wpAnyH_take (i:=0) (oi:=⟨some 36,_,_,_,_,_⟩) (v:=_) rfl (by kernel_rfl) (by kernel_rfl) (by kernel_rfl) (fun _ _ _ h=>h) (Or.inl ⟨by rfl,?_⟩) hHeld ?_
 rotate_left
 ·(intro w' ab;(try dsimp only at ab);go_simp;(try with_reducible rfl))
 try simp only[pu]
 refine' wpAnyH_take (i:=1) (oi:=⟨some 37,_,_,_,_,_⟩) (v:=_) rfl (by kernel_rfl) (by kernel_rfl) (by kernel_rfl) (fun _ _ _ h=>h) (Or.inl ⟨by rfl,?_⟩) hHeld ?_
 rotate_left
 ·(intro w' ab;(try dsimp only at ab);go_simp;(try with_reducible rfl))
 try simp only[pu]
 refine' wpAnyH_take (i:=2) (oi:=⟨some 38,_,_,_,_,_⟩) (v:=_) rfl (by kernel_rfl) (by kernel_rfl) (by kernel_rfl) (fun _ _ _ h=>h) (Or.inl ⟨by rfl,?_⟩) hHeld ?_
 rotate_left
 ·(intro w' ab;(try dsimp only at ab);go_simp;(try with_reducible rfl))
 try simp only[pu]
 refine' wpAnyH_take (i:=3) (oi:=⟨some 39,_,_,_,_,_⟩) (v:=_) rfl (by kernel_rfl) (by kernel_rfl) (by kernel_rfl) (fun _ _ _ h=>h) (Or.inl ⟨by rfl,?_⟩) hHeld ?_
 rotate_left
 ·(intro w' ab;(try dsimp only at ab);go_simp;(try with_reducible rfl))
 try simp only[pu]
 refine' wpAnyH_take (i:=4) (oi:=⟨some 40,_,_,_,_,_⟩) (v:=_) rfl (by kernel_rfl) (by kernel_rfl) (by kernel_rfl) (fun _ _ _ h=>h) (Or.inl ⟨by rfl,?_⟩) hHeld ?_
 rotate_left
 ·(intro w' ab;(try dsimp only at ab);go_simp;(try with_reducible rfl))
 try simp only[pu]
 refine' wpAnyH_take (i:=5) (oi:=⟨some 41,_,_,_,_,_⟩) (v:=_) rfl (by kernel_rfl) (by kernel_rfl) (by kernel_rfl) (fun _ _ _ h=>h) (Or.inl ⟨by rfl,?_⟩) hHeld ?_
 rotate_left
 ·(intro w' ab;(try dsimp only at ab);go_simp;(try with_reducible rfl))
 try simp only[pu]
 refine' wpAnyH_take (i:=6) (oi:=⟨some 42,_,_,_,_,_⟩) (v:=_) rfl (by kernel_rfl) (by kernel_rfl) (by kernel_rfl) (fun _ _ _ h=>h) (Or.inl ⟨by rfl,?_⟩) hHeld ?_
 rotate_left
 ·(intro w' ab;(try dsimp only at ab);go_simp;(try with_reducible rfl))
 try simp only[pu]
 refine wpAnyH_ready (rs:=[7]) (by kernel_rfl) (by simp) ?_
 refine AllReadyH.cons (i:=7) rfl (fun K hK=> ?_) AllReadyH.nil;go_simp;try go_wp2_with fail
 refine hK.out _ _ ?_ (fun hHeld=> ?_)
 ·exact hHeld
 clear hK K;try simp only[pu]
 clear lZ;refine wpAnyH_ready (rs:=[8]) (by kernel_rfl) (by simp) ?_
 refine AllReadyH.cons (i:=8) rfl (fun K hK=> ?_) AllReadyH.nil;go_simp
 (go_at_call 103;refine(eP.o _ _ _ cT.o).mono ?_;rintro r w8 ⟨nQ,z8,e8,rfl,ch,kS⟩;have mi:=J (gv.o.blk ch aW.o);have yT:Hid (w8.cell? ⟨cb,1,none⟩=some (.map (some bm))):=J ((ch.blk cT.o.blk (fun hx=>hx.elim (fun e=>cT.o.apart.gc e.symm) (fun hx=>hx.elim (fun e=>cT.o.apart.bc e.symm) (fun e=>cT.o.apart.dc e.symm))) cT.o.apart.rc).threeC.2.1);have gy:=J (jZ.o.trans ch);have pn:=J kS;clear ch kS)
 try go_wp2_with fail
 refine hK.out _ _ ?_ (fun hHeld=> ?_)
 ·exact⟨yT.o,mi.o.five.2.2.2.2⟩
 clear hK K;try simp only[pu]
 refine' wpAnyH_take (i:=9) (oi:=⟨some 35,_,_,_,_,_⟩) (v:=_) rfl (by kernel_rfl) (by kernel_rfl) (by kernel_rfl) (fun _ _ _ h=>h) (Or.inl ⟨by rfl,?_⟩) hHeld ?_
 rotate_left
 ·(intro w' ab;(try dsimp only at ab);go_simp;(try with_reducible rfl))
 try simp only[pu]
 refine' wpAnyH_take (i:=10) (oi:=⟨some 45,_,_,_,_,_⟩) (v:=_) rfl (by kernel_rfl) (by kernel_rfl) (by kernel_rfl) (fun _ _ _ h=>h) (Or.inl ⟨by rfl,?_⟩) hHeld ?_
 rotate_left
 ·(intro w' ab;(try dsimp only at ab);go_simp;(try with_reducible rfl))
 try simp only[pu]
 refine' wpAnyH_take (i:=11) (oi:=⟨some 46,_,_,_,_,_⟩) (v:=_) rfl (by kernel_rfl) (by kernel_rfl) (by kernel_rfl) (fun _ _ _ h=>h) (Or.inl ⟨by rfl,?_⟩) hHeld ?_
 rotate_left
 ·(intro w' ab;(try dsimp only at ab);go_simp;(try with_reducible rfl))
 try simp only[pu]
 refine' wpAnyH_take (i:=12) (oi:=⟨some 10,_,_,_,_,_⟩) (v:=_) rfl (by kernel_rfl) (by kernel_rfl) (by kernel_rfl) (fun _ _ _ h=>h) (Or.inl ⟨by rfl,?_⟩) hHeld ?_
 rotate_left
 ·(intro w' ab;(try dsimp only at ab);go_simp;(try with_reducible rfl))
 try simp only[pu]
 refine' wpAnyH_take (i:=13) (oi:=⟨some 11,_,_,_,_,_⟩) (v:=_) rfl (by kernel_rfl) (by kernel_rfl) (by kernel_rfl) (fun _ _ _ h=>h) (Or.inl ⟨by rfl,?_⟩) hHeld ?_
 rotate_left
 ·(intro w' ab;(try dsimp only at ab);go_simp;(try with_reducible rfl))
 try simp only[pu]
 refine wpAnyH_done (by kernel_rfl) ?_ _
 clear hHeld gB aW jZ mi yT cT;rcases pn.o with ⟨el,rfl,rfl,f8,kS⟩|⟨el,rfl,rfl⟩
 ·have jE:=J kS;clear pn kS el;obtain⟨c0,c1,c2,cX⟩:=jE.o.blk.threeC;obtain⟨zZ,bq,ir,iG⟩:=jE.o.note uA.o uy.o;have HE:=J (And.intro ir (gy.o.grown iG (Or.inr (Or.inr rfl))));have dR:=J jE.o.gr.few;clear ir iG jE gy;go_wp2_with fail;go_ret2;exact⟨_,_,_,rfl,HE.o.2,.inl ⟨dR.o,rfl,rfl,_,HE.o.1⟩⟩
 ·have ut:=J el;clear pn el;go_wp2_with fail;go_ret2;exact⟨_,_,_,rfl,gy.o,.inr ⟨ut.o,rfl,rfl⟩⟩
structure Uo (g dm wb:Nat) (ev rv:Value) (nb:Nat):Prop where
 g:nb≠g
 wb:nb≠wb
 dm:nb≠dm
 ev:ev.ownBlock≠some nb
 rv:rv.ownBlock≠some nb
theorem Gf{ns:List Nd}{env:Env}{B g b bm dm cb:Nat}{w:World}{ms:List Nd}{nv:Value}{f:Int->Option Int}(h:WkP ns env B g b bm dm cb w ms nv f){i:Nat}{e:Ex}(hc:Bt ns env i e){z:Int}(hf:f (i:Int)=some z):
  Calls Tryz.prog 103 #[.pointer (some ⟨cb,0,none⟩),.int .i64 (i:Int)] w (ClP ns env B g b bm dm cb (AC ms e).2 (AC ms e).1 nv w):=by
 obtain⟨hz,hm⟩:=h.done.found h.gr.ok.1 hc hf;have hi:=hc.lt;have h1:=h.pre.length_le;have h2:=h.gr.few;rw[hm];exact OW h i _ (by omega) (by rw[hf,hz])
theorem Ra{ns:List Nd}{env:Env}{B g b bm dm cb:Nat}(he:Et ns env){i:Nat}{e:Ex}(hc:Bt ns env i e):∀(w:World) (ms:List Nd) (nv:Value) (f:Int->Option Int),WkP ns env B g b bm dm cb w ms nv f->
  Calls Tryz.prog 103 #[.pointer (some ⟨cb,0,none⟩),.int .i64 (i:Int)] w (ClP ns env B g b bm dm cb (AC ms e).2 (AC ms e).1 nv w):=by
 induction hc with
 | @leaf i k t h1 h2 h3=>
   intro w ms nv f h;have hc:Bt ns env i (.leaf k t):= .leaf h1 h2 h3;cases hf:f (i:Int) with
   |some z=>exact Gf h hc hf
   |none=>exact OV h i k t h1 h2 h3 hf _ _ (fun W nv hg hm=>JJ B g b W ms nv hg _ (.inl ⟨k,t,rfl,h3⟩) hm) (Cv ms _) _ hc (Ep (.leaf k t) ms)
 | @name i n t e h1 h2 h3 ih=>
   intro w ms nv f h;have hc:Bt ns env i e:= .name h1 h2 h3;cases hf:f (i:Int) with
   |some z=>exact Gf h hc hf
   |none=>exact OU h i n t h1 (by rw[he.map t,h2,if_pos (by omega)]) hf _ _ (fun W nv f hw=>ih W ms nv f hw) e hc (Ep e ms)
 | @un i j k n x h1 h2 h3 ih=>
   intro w ms nv f h;have hc:Bt ns env i (.un k n x):= .un h1 h2 h3;cases hf:f (i:Int) with
   |some z=>exact Gf h hc hf
   |none=>exact SK h i j k n h1 h2 hf (AC ms x).2 _ (AC ms x).1 _ (fun W nv f hw=>ih W ms nv f hw) (fun W nv hg hm=>JJ B g b W (AC ms x).2 nv hg _ (.inr (.inl ⟨k,n,_,rfl,h2,Gh x ms⟩)) hm) (Cv _ _) _ hc (Ep (.un k n x) ms)
 | @bin i j q k x y h1 h2 h3 h4 ihx ihy=>
   intro w ms nv f h;have hc:Bt ns env i (.bin k x y):= .bin h1 h2 h3 h4;cases hf:f (i:Int) with
   |some z=>exact Gf h hc hf
   |none=>
    have dM:=(E0 y (AC ms x).2).length_le;have hlt:=Gh x ms;exact Q9 h i j q k h1 h2 hf (AC ms x).2 (AC (AC ms x).2 y).2 _ (AC ms x).1 (AC (AC ms x).2 y).1 _ (E0 y _) (fun W nv f hw=>ihx W ms nv f hw) (fun W nv f hw=>ihy W (AC ms x).2 nv f hw) (fun W nv hg hm=>JJ B g b W (AC (AC ms x).2 y).2 nv hg _ (.inr (.inr ⟨k,_,_,rfl,h2,by omega,Gh y _⟩)) hm) (Cv _ _) _ hc (Ep (.bin k x y) ms)
theorem Mf{g b:Nat}{nv:Value}{A:Option Addr}{c:Nat}{l:List Nd}(eA:l.length<=c)(i:Nat)(hi:i<=l.length):∃v1,(∀W:World,(Instr.slice 32 (.slice A l.length c) (some (.int .i64 (i:Int))) none none).run Tryz.prog W= .ok v1 W)/\∀w,CS g b nv w (.slice A l.length c) l->CS g b nv w v1 (l.drop i):=by
 have bj:Tryz.prog.elem 32=95:=by kernel_rfl
 obtain⟨i0,dW,_,hz1,_⟩:=info_parts BI;refine⟨.slice (if c=i then A else A.map (·.add (i*5))) (l.length-i) (c-i),fun W=> ?_,fun w h=> ?_⟩
 ·rw[run_slice_l W 32 A l.length c (by rw[bj];exact Tryz.underlying32) .i64 (i:Int) (by omega) (by omega)];have hs:(sizeOf (Tryz.prog.elem 32)).run Tryz.prog W= .ok 5 W:=by rw[bj];simp[sizeOf,typeInfo,dW,hz1]
  rw[hs];simp only[Result.andThen,sliced,qaq]
 ·obtain⟨A',c',hv,h1⟩:=h;injection hv with e1 _ e3
  subst e1 e3;have hl:(l.drop i).length=l.length-i:=qaU;refine⟨_,_,by rw[hl],fun hp=> ?_⟩;rw[hl]at hp;have eT:i<l.length:=Nat.lt_of_sub_pos hp;have hci:c≠i:=Nat.ne_of_gt (qaj eT eA);obtain⟨q,o,rfl,hq,h2,h3,h4,hc⟩:=h1 (qbD (qal i) eT);rw[if_neg hci];refine⟨q,o+i*5,by simp[Addr.add],hq,h2,h3,h4,fun j hj=> ?_⟩;rw[hl]at hj;have h5:=hc (i+j) (Nat.add_lt_of_lt_sub' hj);rw[List.getElem_drop,show o+i*5+j*5=o+(i+j)*5 by rw[qbm,qbT]];exact h5
theorem Tn{B:Nat}{w:World}{A:Option Addr}{n c:Nat}{l:List Nd}(h:Ai B w (.slice A n c) l):l.length<=c:=by
 unfold Ai at h;rcases h.2 with ⟨hv,hn⟩|⟨g,cap,cur,hv,_,_,h2,_⟩
 ·omega
 ·injection hv with _ _ e3
  omega
def Fp(B g b:Nat)(ms:List Nd)(env:Env)(id:Int)(nv:Value)(w:World)(r:Ending)(w':World):Prop:=
 ∃z c ms' nv',r= .returned (.tuple #[.int .i64 z,.int .i64 c])/\Hl ms env id z c ms'/\GrP B g b w' ms' nv'/\KG g b nv nv' w w'
theorem JU(B g b:Nat)(w:World)(ms:List Nd)(nv:Value)(h:GrP B g b w ms nv)(ev:Value)(env:Env)(he:BG 0 w ev env)(hg:Bv ms env)(id:Int)(hm:BT w):
  Calls Tryz.prog 37 #[.pointer (some ⟨g,0,none⟩),ev,.int .i64 id] w (Fp B g b ms env id nv w):=by
 have HG:=J h;have HE:=J he;have eQ:=J hg;have HM:=J hm;have fF:=J (Qt B g b w ms nv h ev env he.read hg.ok id);have kD:=J (fun W (hx:Ext w W)=>Ig B g b W ms nv (h.keep hx) ev env (he.read.ext hx) (by have:=hg.ok.few;omega) (hg.ok.texts h.few));have Y1:=J (fun W (hx:Ext w W)=>QT B g b W ms nv (h.keep hx));have aQ:=J (fun W (hx:Ext w W)=>EC W ev env (he.read.ext hx) (by have:=hg.ok.few;omega) (hg.ok.texts h.few));have fm:=J (fun W (hx:Ext w W)=>Sy B g b W ms nv (h.keep hx));unfold If at fF;unfold D8 at kD;unfold Fp;obtain⟨AE,cE,xl⟩:=he.shape;obtain⟨nE,XI⟩:∃nE,nE=env.length:=⟨_,rfl⟩;rw[<-XI]at xl;subst xl;clear h he hg hm XI;go_enter Tryz.func37,Tryz.ntmps37;go_wp2_with fail;refine fF.o.mono ?_
 rintro e w1 ⟨v1,l,c,rfl,qM,ZQ,_,_,ar⟩;have ah:=J ar;obtain⟨m1,A1,c1,rfl⟩:=qM.shape;clear qM ar fF;rcases ZQ with ⟨h1,_,rfl⟩|⟨h1,h2,h3,_,rfl⟩|⟨h1,h2,h3,rfl,_⟩
 ·have HR:Hid (Hl ms env id 0 1 ms):=J (.inl ⟨h1,rfl,rfl,rfl⟩);clear h1;go_wp2_with fail;go_ret2;exact⟨0,1,ms,_,rfl,HR.o,HG.o.keep ah.o,KG.of_ext ah.o⟩
 ·have HR:Hid (Hl ms env id 0 8 ms):=J (.inr (.inl ⟨h1,h2,h3,rfl,rfl,rfl⟩));clear h1 h2 h3;go_wp2_with fail;go_ret2;exact⟨0,8,ms,_,rfl,HR.o,HG.o.keep ah.o,KG.of_ext ah.o⟩
 obtain⟨i,rfl⟩:∃i:Nat,id=(i:Int):=⟨id.toNat,by omega⟩;obtain⟨e,hce⟩:=eQ.o.closed HG.o.ok i (by omega) (by rw[qaq]at h3;exact h3);have yk:Hid ((AC ms e).2.length<=4096->Hl ms env (i:Int) ((AC ms e).1:Int) 0 (AC ms e).2):=J (fun hft=> .inr (.inr ⟨h1,h2,h3,e,by rw[qaq];exact hce,.inl ⟨hft,rfl,rfl,rfl⟩⟩));have yl:Hid (4096<(AC ms e).2.length->Hl ms env (i:Int) 0 7 ms):=J (fun hft=> .inr (.inr ⟨h1,h2,h3,e,by rw[qaq];exact hce,.inr ⟨hft,rfl,rfl,rfl⟩⟩));have cw:=J (fun W nv f B g b bm dm cb (h:WkP ms env B g b bm dm cb W ms nv f)=>Ra eQ.o.ok hce W ms nv f h);have ib:=J (Ax.add e hce.good ms HG.o.ok);have fX:=J (E0 e ms);generalize (AC ms e).1=pid at *;generalize (AC ms e).2=ms2 at *;clear h1 h2 h3 hce;go_wp2_with fail;refine(kD.o w1 ah.o).mono ?_
 rintro r w2 ⟨d,rfl,hd,al⟩;obtain rfl:d=true:=hd.2 eQ.o;have am:=J (ah.o.trans al);clear al hd kD;go_wp2_with fail;refine(Y1.o w2 am.o).mono ?_
 rintro r w3 ⟨g2,b2,nv2,rfl,ks,ae⟩;have ag:=J (am.o.trans ae);have du:=J ks;have aF:Hid (w.heap.size<=w2.heap.size):=J am.o.size;clear ae ks Y1;go_wp2_with fail;refine(aQ.o w3 ag.o).mono ?_
 rintro r w4 ⟨bm,rfl,eM,ee,aJ⟩;have aD:=J (ag.o.trans aJ);have mp:=J (du.o.keep aJ);have hmm:=fun W=> @run_makeMap Tryz.prog 157 W
 have qZ:=J (Fw.made w4 ms.length);have ba:=J ((Ext.refl w4).alloc (.map #[] 0));obtain⟨dm,oQ⟩:∃dm,dm=w4.heap.size:=⟨_,rfl⟩;obtain⟨w5,cA⟩:∃w5,w5=w4.alloc (.map #[] 0):=⟨_,rfl⟩;rw[<-cA]at ba qZ;rw[<-oQ]at qZ;have bK:=J (Blk.new w5 159 #[.pointer (some ⟨g2,0,none⟩),.map (some bm),.map (some dm)]);have aZ:=J ((Ext.refl w5).alloc (.cells #[.pointer (some ⟨g2,0,none⟩),.map (some bm),.map (some dm)] 159));obtain⟨cb,oT⟩:∃cb,cb=w5.heap.size:=⟨_,rfl⟩;obtain⟨w6,cY⟩:∃w6,w6=w5.alloc (.cells #[.pointer (some ⟨g2,0,none⟩),.map (some bm),.map (some dm)] 159):=⟨_,rfl⟩;rw[<-cY]at aZ bK;rw[<-oT]at bK;have X8:dm+1=cb:=by rw[oT,cA,oQ];simp
 have qS:=J (ba.o.trans aZ.o);have aN:=J (aD.o.trans qS.o);have dY:Hid (WkP ms env w2.heap.size g2 b2 bm dm cb w6 ms nv2 (fun _=>none)):=J (by
  have h1:=du.o.map.lt;have h2:=AP.lt ee;have h3:=du.o.lo2;have h4:=aJ.size;exact⟨mp.o.keep qS.o,qcf _,bK.o,AP.ext ee qS.o,qZ.o.ext aZ.o,E5.none,HM.o.ext aN.o,by omega,by omega,by omega,by omega⟩)
 have yR:Hid (w2.heap.size<=dm):=J dY.o.lod;clear eM ee aJ aQ du mp;go_upto_region 8 with fail;rw[<-oQ,<-cA,X8,<-cY];clear oQ cA oT cY X8 hmm;go_wp2_with fail;refine(cw.o w6 _ _ _ g2 b2 bm dm cb dY.o).mono ?_
 rintro r w8 ⟨nQ,z8,c8,rfl,ch,kS⟩;have cp:Hid (Ext w w8):=J (aN.o.more (ch.below aN.o.size (fun k hx=>by
  have h1:=dY.o.gr.lo;have h2:=dY.o.gr.lo2;have h3:=aF.o;have h4:=yR.o;rcases hx with rfl|rfl|rfl<;>omega) (fun k hk=>by
  have h1:=Ay dY.o.gr.row k hk;have h3:=aF.o;omega)))
 clear ch cw dY;rcases kS with ⟨el,rfl,rfl,f8,kS⟩|⟨el,rfl,rfl⟩
 rotate_left
 ·have HR:=J (yl.o el);clear el;go_wp2_with fail;go_ret2;exact⟨0,7,ms,_,rfl,HR.o,HG.o.keep cp.o,KG.of_ext cp.o⟩
 have HR:=J (yk.o el);have ml:=J el;have pn:=J kS.gr;have YW:=J (HG.o.keep cp.o);have dQ:=J (fun W (hx:Ext w8 W)=>OC w2.heap.size g2 b2 W ms2 nQ (pn.o.keep hx));clear kS el yk yl;obtain⟨n,hn⟩:∃n,n=(ms2.drop ms.length).length:=⟨_,rfl⟩;have HN:=J hn;clear hn;go_upto_region 11 with fail;have ea:g<w8.drew.heap.size:=YW.o.lt;refine wp_region_held_drew (S:=fun w'=>Ext w8 w') (by kernel_rfl) (by exact(Ext.refl w8).drew) (fun hHeld=> ?_);refine' wpAnyH_take (i:=0) (oi:=⟨some 47,_,_,_,_,_⟩) (v:=_) rfl (by kernel_rfl) (by kernel_rfl) (by kernel_rfl) (fun _ _ _ h=>h) (Or.inl ⟨by rfl,?_⟩) hHeld ?_
 rotate_left
 ·(intro w' ab;(try dsimp only at ab);go_simp;(try with_reducible rfl))
 try simp only[pu]
 refine' wpAnyH_take (i:=2) (oi:=⟨some 49,_,_,_,_,_⟩) (v:=_) rfl (by kernel_rfl) (by kernel_rfl) (by kernel_rfl) (fun _ _ _ h=>h) (Or.inl ⟨by rfl,?_⟩) hHeld ?_
 rotate_left
 ·(intro w' ab;(try dsimp only at ab);go_simp;(try with_reducible rfl))
 try simp only[pu]
 refine' wpAnyH_take (i:=3) (oi:=⟨some 50,_,_,_,_,_⟩) (v:=_) rfl (by kernel_rfl) (by kernel_rfl) (by kernel_rfl) (fun _ _ _ h=>h) (Or.inl ⟨by rfl,?_⟩) hHeld ?_
 rotate_left
 ·(intro w' ab;(try dsimp only at ab);go_simp;(try with_reducible rfl))
 try simp only[pu]
 refine' wpAnyH_take (i:=4) (oi:=⟨some 51,_,_,_,_,_⟩) (v:=_) rfl (by kernel_rfl) (by kernel_rfl) (by kernel_rfl) (fun _ _ _ h=>h) (Or.inl ⟨by rfl,?_⟩) hHeld ?_
 rotate_left
 ·(intro w' ab;(try dsimp only at ab);go_simp;(try with_reducible rfl))
 try simp only[pu]
 refine' wpAnyH_take (i:=8) (oi:=⟨some 55,_,_,_,_,_⟩) (v:=_) rfl (by kernel_rfl) (by kernel_rfl) (by kernel_rfl) (fun _ _ _ h=>h) (Or.inl ⟨by rfl,?_⟩) hHeld ?_
 rotate_left
 ·(intro w' ab;(try dsimp only at ab);go_simp;(try with_reducible rfl))
 try simp only[pu]
 refine wpAnyH_ready (rs:=[1]) (by kernel_rfl) (by simp) ?_
 refine AllReadyH.cons (i:=1) rfl (fun K hK=> ?_) AllReadyH.nil;go_simp
 (go_at_call 40;refine(dQ.o _ hHeld).mono ?_;rintro r w9 ⟨v9,rfl,ft,ja⟩;have dI:=J (cp.o.trans (hHeld.trans ja));have HF9:=J (CS.new (ft.mono (qaf cp.o.size hHeld.size)) HG.o);obtain⟨A9,c9,rfl⟩:=ft.shape;have eA:=Tn ft;obtain⟨v10,pT,eL⟩:=Mf (g:=g) (b:=b) (nv:=nv) (A:=A9) eA ms.length fX.o.length_le;have q9:=J (eL _ HF9.o);obtain⟨A10,c10,vN,_⟩:=q9.o;rw[<-HN.o]at vN;subst vN;clear ft eA eL)
 try go_wp2_with fail
 refine hK.out _ _ ?_ (fun hHeld=> ?_)
 ·exact hHeld.trans ja
 clear hK K;try simp only[pu]
 refine wpAnyH_ready (rs:=[5]) (by kernel_rfl) (by simp) ?_
 refine AllReadyH.cons (i:=5) rfl (fun K hK=> ?_) AllReadyH.nil;go_simp
 (go_at_call 41;refine(fm.o _ dI.o).mono ?_;rintro r dj ⟨rfl,rfl⟩)
 try go_wp2_with fail
 refine hK.out _ _ ?_ (fun hHeld=> ?_)
 ·exact hHeld
 clear hK K;try simp only[pu]
 refine' wpAnyH_take (i:=6) (oi:=⟨some 53,_,_,_,_,_⟩) (v:=_) rfl (by kernel_rfl) (by kernel_rfl) (by kernel_rfl) (fun _ _ _ h=>h) (Or.inl ⟨by rfl,?_⟩) hHeld ?_
 rotate_left
 ·(intro w' ab;(try dsimp only at ab);go_simp;(try with_reducible rfl))
 try simp only[pu]
 refine' wpAnyH_take (i:=7) (oi:=⟨some 54,_,_,_,_,_⟩) (v:=_) rfl (by kernel_rfl) (by kernel_rfl) (by kernel_rfl) (fun _ _ _ h=>h) (Or.inl ⟨by rfl,?_⟩) hHeld ?_
 rotate_left
 ·(intro w' ab;(try dsimp only at ab);go_simp;(try with_reducible rfl))
 try simp only[pu]
 refine wpAnyH_done (by kernel_rfl) ?_ _
 clear hHeld ja pT;have mo:=J (HG.o.keep dI.o);have yy:=J (HM.o.ext dI.o);have dP:Hid (ms2.take ms.length=ms):=J (List.prefix_iff_eq_take.1 fX.o).symm;have sg:Hid ((ms2.drop ms.length).length=ms2.length-ms.length):=J qaU;have UZ:=fX.o.length_le;have XS:=ml.o;obtain⟨m0,wO⟩:∃m0,m0=ms.length:=⟨_,rfl⟩;rw[<-wO]at dP sg HN UZ q9;rw[<-HN.o]at sg;clear wO HE eQ fm dQ pn YW ea ah am ag aD aN cp qS ba aZ qZ bK yR aF;go_wp2_with fail;go_loopw [15,55] (fun _ s55 wr=>∃(k:Nat) (sq:Value),k<=n/\s55= .int .i64 (k:Int)/\GrP B g b wr (ms2.take (m0+k)) sq/\KG g b nv sq w wr/\CS g b sq wr (.slice A10 n c10) (ms2.drop m0)/\BT wr) (fun _ s55 _=>n-(intOf s55).toNat)
 case atStart=>exact⟨0,nv,qal _,rfl,by rw[qbc,dP.o];exact mo.o,KG.of_ext dI.o,q9.o,yy.o⟩
 case round=>
  clear mo q9 yy;obtain⟨k,sq,hk,rfl,hg,cd,eL,lX⟩:=hrel;have zR:=J hg;have cH:=J cd;have lN:=J eL;have jI:=J lX;clear hg cd lX;by_cases hlt:k<n
  ·have hk2:m0+k<ms2.length:=by have:=sg.o;omega
   have XY:k<(ms2.drop m0).length:=by rw[<-HN.o];exact hlt
   have hpl:=ib.o.load hk2;have an:=ib.o.2 (m0+k) _ (qaa hk2);have gT:(ms2.take (m0+k)).length=m0+k:=by rw[qas];omega
   have aE:=J (fun W nv h hm=>JK B g b W (ms2.take (m0+k)) nv h ms2[m0+k] (by rw[gT];exact an) hm (by rw[gT];omega));unfold Hi at aE;rw[hpl]at aE;obtain⟨A',c',hv,eL⟩:=eL;injection hv with e1 e2 e3
   subst e1 e3;clear e2;obtain⟨q,oq,rfl,hq,_,_,_,hc⟩:=eL (by omega);have fK:=hc k XY;rw[List.getElem_drop]at fK;obtain⟨p0,p1,p2,p3,p4⟩:=fK;have g3:(0:Int)<=(k:Int):=by omega
   have bT:(k:Int)<(n:Int):=by omega
   have jn:IntKind.i64.wrap ((k:Int)+1)=(k:Int)+1:=IntWalk.i64_in _ (by omega);generalize ms2[m0+k]=x at *;clear hc an hpl XY gT hk2 eL;obtain⟨y0,y1,y2,y3,y4⟩:=x;simp only[ndV]at aE;simp only at p0 p1 p2 p3 p4;obtain⟨s,hs⟩:∃s:ByteArray,str y4= .string s:=⟨_,rfl⟩;rw[hs]at p4 aE;clear hs;have aW:=J (Blk.new wr 95 #[.int .i64 y0,.int .i64 y1,.int .i64 y2,.int .i64 y3,.string s]);have aN:=J ((Ext.refl wr).alloc (.cells #[.int .i64 y0,.int .i64 y1,.int .i64 y2,.int .i64 y3,.string s] 95));obtain⟨w7,dk⟩:∃w7,w7=wr.alloc (.cells #[.int .i64 y0,.int .i64 y1,.int .i64 y2,.int .i64 y3,.string s] 95):=⟨_,rfl⟩;rw[<-dk]at aW aN;have q0:=aW.o.five;go_upto_region 14 with fail;rw[<-dk];clear dk p0 p1 p2 p3 p4 hq;go_wp2_with fail;refine(aE.o w7 sq (zR.o.keep aN.o) (jI.o.ext aN.o)).mono ?_
   rintro r wz ⟨Zd,rfl,iD,ea⟩;have q8:=J ea;have q6:=J (cH.o.trans ((KG.of_ext aN.o).trans iD));have HFZ:=J ((lN.o.keep (KG.of_ext aN.o)).keep iD);have jj:=J ((jI.o.ext aN.o).below (iD.below (zR.o.keep aN.o)) zR.o.low);clear iD ea aE q0;go_wp2_with fail;go_roundw
   case rel=>exact⟨k+1,Zd,by omega,by go_num,q8.o,q6.o,HFZ.o,jj.o⟩
   case measure=>simp[intOf]<;>omega
  ·obtain rfl:k=n:=by omega
   have W3:Hid (GrP B g b wr ms2 sq):=J (by
    have h:=zR.o;rw[qak (by have:=sg.o;omega)]at h;exact h)
   clear eL;go_wp2_with fail;go_ret2;exact⟨_,0,ms2,sq,rfl,HR.o,W3.o,cH.o⟩
end Big
end Go.Proofs.YtkoaogkknnelaaaGreatDoor
