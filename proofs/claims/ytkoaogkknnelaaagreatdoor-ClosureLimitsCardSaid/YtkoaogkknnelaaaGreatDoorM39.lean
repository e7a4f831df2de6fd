import Derived.Test.YtkoaogkknnelaaaGreatDoorM37
set_option linter.unusedVariables false
set_option linter.unusedSimpArgs false
set_option maxHeartbeats 16000000
set_option maxRecDepth 100000
namespace Go.Proofs.YtkoaogkknnelaaaGreatDoor
namespace Big
open Lib renaming hid → J
open Go.RowKit Go.Maps Go.Sort
theorem Rl(B g b:Nat)(w:World)(ns:List Nd)(nv:Value)(h:GrP B g b w ns nv)(x:Nd)(hx:CP ns.length x)(hm:BC w)(hin:x∉ns)(vA:4096<=ns.length):
  Calls Tryz.prog 104 #[.pointer (some ⟨g,0,none⟩),ndV x] w fun e w'=>e= .returned (.tuple #[.int .i64 0,.int .i64 7])/\Ext w w':=by
 have dn:=J (fun W h=>H4 B g b W ns nv h x hx);have HM:=J hm;have HG:=J h;have hfew:=h.few;have pJ:F3 x:=hx.key (by omega);have gI:=J (fun W (h:GrP B g b W ns nv)=>h.map.look (h.ok.keys (by omega)) h.ok.1 x pJ (t:=78) Tryz.underlying78);have qA:Fh x ns=0:=by unfold Fh;rw[if_neg hin]
 rw[qA,decide_eq_false hin]at gI;have oc:decide ((ns.length:Int)>=4096)=true:=decide_eq_true (by omega);have Wt:decide (4096<=(ns.length:Int))=true:=decide_eq_true (by omega);clear qA hin pJ hfew vA hm hx;obtain⟨A,c,rfl⟩:=h.row.shape;clear h;obtain⟨k,a,d,n,t⟩:=x;simp only[ndV]at dn gI ⊢;obtain⟨s,hs⟩:∃s:ByteArray,s=⟨t.toArray⟩:=⟨_,rfl⟩;have ai:str t= .string s:=by rw[hs];rfl
 rw[ai]at dn gI ⊢;clear hs ai;have aM:=J (Blk.new w 95 #[.int .i64 k,.int .i64 a,.int .i64 d,.int .i64 n,.string s]);have ah:=J ((Ext.refl w).alloc (.cells #[.int .i64 k,.int .i64 a,.int .i64 d,.int .i64 n,.string s] 95));obtain⟨w1,aL⟩:∃w1,w1=w.alloc (.cells #[.int .i64 k,.int .i64 a,.int .i64 d,.int .i64 n,.string s] 95):=⟨_,rfl⟩;rw[<-aL]at aM ah;have q0:=aM.o.five;go_enter Tryz.func104,Tryz.ntmps104;go_upto_region 1 with fail;rw[<-aL];clear aL;go_wp2_with fail;refine(dn.o w1 (HG.o.keep ah.o) (HM.o.ext ah.o)).mono ?_
 rintro e w2 ⟨rfl,au⟩;have aq:=J (ah.o.trans au);have dE:=J (HG.o.keep aq.o);have aP:=J (aM.o.ext au);clear q0 au;have q0:=aP.o.five;have k0:=dE.o.blk.twoG;have kv:=gI.o w2 dE.o;have rV:=gI.o w2.drew (dE.o.keep (Ext.refl w2).drew);go_wp2_with fail;go_region;go_wp2_with fail;go_ret2;exact⟨rfl,aq.o.drew⟩
def XP(g b dm:Nat)(k:Nat):Prop:=k=g\/k=b\/k=dm
structure WkP (ns:List Nd) (env:Env) (B g b bm dm cb:Nat) (w:World) (ms:List Nd) (nv:Value) (f:Int->Option Int):Prop where
 gr:GrP B g b w ms nv
 pre:ns <+: ms
 blk:Blk w cb 159 #[.pointer (some ⟨g,0,none⟩),.map (some bm),.map (some dm)]
 bmap:D7 w bm env.length (BW env)
 map:Fv w dm ns.length f
 done:Ed ns env ms f
 mv:BC w
 lod:B<=dm
 n1:b≠dm
 n2:b≠bm
 n3:bm≠dm
section
variable {ns:List Nd} {env:Env} {B g b bm dm cb:Nat} {w w':World} {ms ms':List Nd} {nv nv':Value} {f f':Int->Option Int}
theorem WkP.keep(h:WkP ns env B g b bm dm cb w ms nv f)(hx:Ext w w'):WkP ns env B g b bm dm cb w' ms nv f:=
 ⟨h.gr.keep hx,h.pre,h.blk.ext hx,AS.ext h.bmap hx,h.map.ext hx,h.done,h.mv.ext hx,h.lod,h.n1,h.n2,h.n3⟩
structure ApP (g b bm dm cb:Nat) (nv:Value):Prop where
 gb:g≠b
 gd:g≠dm
 gm:g≠bm
 gc:g≠cb
 bc:b≠cb
 dc:dm≠cb
 rb:nv.ownBlock≠some b
 rd:nv.ownBlock≠some dm
 rm:nv.ownBlock≠some bm
 rg:nv.ownBlock≠some g
 rc:nv.ownBlock≠some cb
theorem WkP.apart(h:WkP ns env B g b bm dm cb w ms nv f):ApP g b bm dm cb nv:=by
 obtain⟨es,cl,hm⟩:=h.map.1.isMap;obtain⟨es2,cl2,lB⟩:=AS.isMap h.bmap;obtain⟨es3,cl3,vg,_⟩:=h.gr.map;have hr:=h.gr.row;unfold Ak at hr;exact⟨h.gr.apart3,CD h.gr.blk hm,CD h.gr.blk lB,Fr h.gr.blk h.blk (by decide),(CD h.blk vg).symm,(CD h.blk hm).symm,h.gr.apart,C8 hr hm,C8 hr lB,h.gr.apart2,BG hr h.blk (by decide)⟩
theorem WkP.put(h:WkP ns env B g b bm dm cb w ms nv f)(hk:KG g b nv nv' w w')(hg:GrP B g b w' ms' nv')(hp:ms <+: ms'):WkP ns env B g b bm dm cb w' ms' nv' f:=by
 have ha:=h.apart;refine⟨hg,h.pre.trans hp,hk.blk h.blk ha.gc.symm ha.bc.symm ha.rc,AS.at h.bmap (hk.block bm (AS.lt h.bmap) ha.gm.symm h.n2.symm ha.rm),h.map.at (hk.block dm h.map.lt ha.gd.symm h.n1.symm ha.rd),h.done.pre hp,h.mv.below (hk.below h.gr) h.gr.low,h.lod,h.n1,h.n2,h.n3⟩
theorem WkP.note(h:WkP ns env B g b bm dm cb w ms nv f){i j:Nat}{e:Ex}(hc:AM ns env i e)(hr:Rep ms j e):
  ∃w',(Instr.mapUpdate 157 (.map (some dm)) (.int .i64 (i:Int)) (.int .i64 (j:Int))).run Tryz.prog w= .ok () w'/\WkP ns env B g b bm dm cb w' ms nv (fun k=>if k=(i:Int) then some (j:Int) else f k)/\w.grownBy w' (some dm):=by
 have ha:=h.apart;have hi:=hc.lt;have hj:=hr.lt;have h1:=h.gr.few;have h2:=h.pre.length_le;obtain⟨w',aV,hm,hg⟩:=h.map.put (by omega) hi (z:=j) (by omega);have aC:∀k,k<w.heap.size->k≠dm->w'.heap[k]? =w.heap[k]? :=fun k hk hne=>hg.block k hk (fun e=>hne (by injection e))
 have Zm:B<=w.heap.size:=Nat.le_of_lt (Nat.lt_of_le_of_lt h.gr.lo h.gr.lt);have Uf:Below B w w':=Below.grown (Below.refl B w) hg Zm (fun k hk=>by injection hk with hk;subst hk;exact h.lod);exact⟨w',aV,⟨⟨(aC g h.gr.lt ha.gd).trans h.gr.blk,AU h.gr.row (fun k hk=>aC k (Ax h.gr.row hk) (fun e=>ha.rd (e ▸ hk))),h.gr.map.kept (aC b h.gr.map.lt h.n1),h.gr.lo,h.gr.lo2,h.gr.ok,h.gr.few,h.gr.low⟩,h.pre,(aC cb h.blk.lt ha.dc.symm).trans h.blk,AS.at h.bmap (aC bm (AS.lt h.bmap) h.n3),hm,h.done.put hc hr,h.mv.below Uf h.gr.low,h.lod,h.n1,h.n2,h.n3⟩,hg⟩
theorem WkP.far(h:WkP ns env B g b bm dm cb w ms nv f){nb j:Nat}(h0:B<=nb)(h1:nb≠g)(h2:nb≠cb)(h3:nb≠dm)(h4:nb≠b)(h5:nb≠bm)(h6:nv.ownBlock≠some nb)(u:Value):WkP ns env B g b bm dm cb (w.setCell ⟨nb,j,none⟩ u) ms nv f:=by
 have aC:∀k,k≠nb->(w.setCell ⟨nb,j,none⟩ u).heap[k]? =w.heap[k]? :=fun k hk=>Below.heap_setCell _ _ _ k hk
 exact⟨⟨(aC g h1.symm).trans h.gr.blk,AU h.gr.row (fun k hk=>aC k (fun e=>h6 (e ▸ hk))),h.gr.map.kept (aC b h4.symm),h.gr.lo,h.gr.lo2,h.gr.ok,h.gr.few,h.gr.low⟩,h.pre,(aC cb h2.symm).trans h.blk,AS.at h.bmap (aC bm h5.symm),h.map.at (aC dm h3.symm),h.done,h.mv.below (Below.setCell (Below.refl B w) (p:=⟨nb,j,none⟩) h0 u) h.gr.low,h.lod,h.n1,h.n2,h.n3⟩
structure QT (B g b bm dm cb:Nat) (nv:Value) (nb:Nat):Prop where
 lo:B<=nb
 g:nb≠g
 cb:nb≠cb
 dm:nb≠dm
 b:nb≠b
 bm:nb≠bm
 nv:nv.ownBlock≠some nb
theorem WkP.new(h:WkP ns env B g b bm dm cb w ms nv f){nb:Nat}(hn:w.heap.size<=nb):QT B g b bm dm cb nv nb:=
 ⟨by have:=h.gr.lt;have:=h.gr.lo;omega,by have:=h.gr.lt;omega,by have:=h.blk.lt;omega,by have:=h.map.lt;omega,by have:=h.gr.map.lt;omega,by have:=AS.lt h.bmap;omega,fun e=>by have:=Ax h.gr.row e;omega⟩
theorem QT.move{nb:Nat}(h:QT B g b bm dm cb nv nb)(hk:KX (XP g b dm) nv nv' w w')(hn:nb<w.heap.size):QT B g b bm dm cb nv' nb:=
 ⟨h.lo,h.g,h.cb,h.dm,h.b,h.bm,fun e=>by
  rcases hk.move nb e with h1|h1
  ·exact h.nv h1
  ·omega⟩
theorem QT.blk{nb:Nat}{t:TypeId}{cs:Array Value}(h:QT B g b bm dm cb nv nb)(hk:KX (XP g b dm) nv nv' w w')(hb:Blk w nb t cs):Blk w' nb t cs:=
 hk.blk hb (fun hx=>hx.elim h.g (fun hx=>hx.elim h.b h.dm)) h.nv
end
theorem Blk.threeC{w:World}{g:Nat}{t:TypeId}{a b c:Value}(h:Blk w g t #[a,b,c]):w.cell? ⟨g,0,none⟩=some a/\w.cell? ⟨g,1,none⟩=some b/\w.cell? ⟨g,2,none⟩=some c/\g<w.heap.size:=
 ⟨h.cell 0,h.cell 1,h.cell 2,h.lt⟩
def ClP(ns:List Nd)(env:Env)(B g b bm dm cb:Nat)(ms2:List Nd)(pid:Nat)(nv:Value)(w:World)(r:Ending)(w':World):Prop:=
 ∃nv' z c,r= .returned (.tuple #[.int .i64 z,.int .i64 c])/\KX (XP g b dm) nv nv' w w'/\((ms2.length<=4096/\z=(pid:Int)/\c=0/\∃f',WkP ns env B g b bm dm cb w' ms2 nv' f')\/(4096<ms2.length/\z=0/\c=7))
def PuP(B g b:Nat)(ms2:List Nd)(pid:Nat)(nv:Value)(w:World)(r:Ending)(w':World):Prop:=
 ∃nv' z c,r= .returned (.tuple #[.int .i64 z,.int .i64 c])/\KG g b nv nv' w w'/\((ms2.length<=4096/\z=(pid:Int)/\c=0/\GrP B g b w' ms2 nv')\/(4096<ms2.length/\z=0/\c=7))
theorem JP(B g b:Nat)(w:World)(ns:List Nd)(nv:Value)(h:GrP B g b w ns nv)(x:Nd)(hx:CP ns.length x)(hm:BC w):
  Calls Tryz.prog 104 #[.pointer (some ⟨g,0,none⟩),ndV x] w (PuP B g b (AN ns x).2 (AN ns x).1 nv w):=by
 have hfew:=h.few;by_cases hin:x∈ns
 ·refine(OS B g b w ns nv h x hx hm hin).mono ?_
  rintro r w' ⟨nv',rfl,hk,hg⟩;exact⟨nv',_,_,rfl,hk,.inl ⟨hg.few,rfl,rfl,hg⟩⟩
 ·by_cases hr:ns.length<4096
  ·refine(OT B g b w ns nv h x hx hm hin hr).mono ?_
   rintro r w' ⟨nv',rfl,hk,hg⟩;exact⟨nv',_,_,rfl,hk,.inl ⟨hg.few,rfl,rfl,hg⟩⟩
  ·refine(Rl B g b w ns nv h x hx hm hin (by omega)).mono ?_
   rintro r w' ⟨rfl,hx⟩;refine⟨nv,_,_,rfl,KG.of_ext hx,.inr ⟨?_,rfl,rfl⟩⟩;unfold AN;rw[if_neg hin,List.length_append,List.length_singleton];omega
theorem OB{ns:List Nd}{env:Env}{B g b bm dm cb:Nat}{w:World}{ms:List Nd}{nv:Value}{f:Int->Option Int}(h:WkP ns env B g b bm dm cb w ms nv f)(i pid:Nat)(hi:i<=100000)(hf:f (i:Int)=some (pid:Int)):
  Calls Tryz.prog 103 #[.pointer (some ⟨cb,0,none⟩),.int .i64 (i:Int)] w (ClP ns env B g b bm dm cb ms pid nv w):=by
 have HS:=J h;obtain⟨c0,c1,c2,bU⟩:=h.blk.threeC;obtain⟨hl,_⟩:=h.map.look (k:=i) (by omega);rw[hf]at hl;simp only[Option.getD_some,Option.isSome_some]at hl;clear h hf;go_enter Tryz.func103,Tryz.ntmps103;go_wp2_with fail;go_ret2;exact⟨nv,_,_,rfl,KX.of_ext (Ext.refl w),.inl ⟨HS.o.gr.few,rfl,rfl,f,HS.o⟩⟩
theorem OA{ns:List Nd}{env:Env}{B g b bm dm cb:Nat}{w:World}{ms:List Nd}{nv:Value}{f:Int->Option Int}(h:WkP ns env B g b bm dm cb w ms nv f)(i k:Nat)(t:Tx)(hx:ns[i]? =some ⟨(k:Int),0,0,0,t⟩)(hk:k≠2)(ho:ES k t)(hf:f (i:Int)=none)(ms2:List Nd)(pid:Nat)(et:∀W nv,GrP B g b W ms nv->BC W->Calls Tryz.prog 104 #[.pointer (some ⟨g,0,none⟩),ndV ⟨(k:Int),0,0,0,t⟩] W (PuP B g b ms2 pid nv W))(dH:ms <+: ms2)(e:Ex)(hc:AM ns env i e)(hr:Rep ms2 pid e):
  Calls Tryz.prog 103 #[.pointer (some ⟨cb,0,none⟩),.int .i64 (i:Int)] w (ClP ns env B g b bm dm cb ms2 pid nv w):=by
 have HS:=J h;have hfew:=h.gr.few;have hi:i<ms.length:=(List.getElem?_eq_some_iff.1 (AJ h.pre hx)).1;have ft:=(List.getElem?_eq_some_iff.1 (AJ h.pre hx)).2;have aN:=J (E4 B g b w ms nv h.gr (i:Int));rw[EX hi,ft]at aN;have cF:=J (h.new (nb:=w.heap.size) (Nat.le_refl _));obtain⟨c0,c1,c2,bU⟩:=h.blk.threeC;obtain⟨hl,_⟩:=h.map.look (k:=i) (by omega);rw[hf]at hl;simp only[Option.getD_none,Option.isSome_none]at hl;have lh:=J hc;have lf:=J hr;have az:=J et;have eO:=J dH;have hk2:((k:Int) == 2)=false:=by rw[beq_eq_false_iff_ne];omega
 have eK:decide ((k:Int)>=5)=false:=decide_eq_false (by have:=ho.few;omega);have bK:decide ((k:Int)>=6)=false:=decide_eq_false (by have:=ho.few;omega);clear h hc hr ft hi hf hx et dH ho hk;generalize (k:Int)=kk at *;obtain⟨s,hs⟩:∃s:ByteArray,str t= .string s:=⟨_,rfl⟩;simp only[ndV]at aN az;rw[hs]at aN az;clear hs;go_enter Tryz.func103,Tryz.ntmps103;go_wp2_with fail;refine aN.o.mono ?_
 rintro r w2 ⟨rfl,au⟩;have aq:=J au;have bD:=J (Blk.new w2 95 #[.int .i64 kk,.int .i64 0,.int .i64 0,.int .i64 0,.string s]);have aj:=J (au.alloc (.cells #[.int .i64 kk,.int .i64 0,.int .i64 0,.int .i64 0,.string s] 95));have fb:=J ((HS.o.keep au).new (nb:=w2.heap.size) (Nat.le_refl _));have eH:Hid (w.heap.size<=w2.heap.size):=J au.size;obtain⟨nb,hnb⟩:∃nb,nb=w2.heap.size:=⟨_,rfl⟩;obtain⟨w3,bf⟩:∃w3,w3=w2.alloc (.cells #[.int .i64 kk,.int .i64 0,.int .i64 0,.int .i64 0,.string s] 95):=⟨_,rfl⟩;rw[<-bf,<-hnb]at bD;rw[<-bf]at aj;rw[<-hnb]at fb eH;clear au aN cF hl c0 c1 c2 bU;go_upto_region 6 with fail;rw[<-bf,<-hnb];clear bf hnb;have dL:=J (HS.o.keep aj.o);have bE:Hid (KX (XP g b dm) nv nv w w3):=J (KX.of_ext aj.o);have cF:=J fb.o;have q0:=bD.o.five;obtain⟨c0,c1,c2,bU⟩:=dL.o.blk.threeC;clear fb aq HS;have d0:=bD.o.five;obtain⟨c0,c1,c2,bU⟩:=dL.o.blk.threeC;have dW:=J (And.intro c0 bD.o.five);go_upto_region 13 with fail;clear d0 c0 c1 c2 bU;have bx:=J (dL.o.keep ((Ext.refl w3).drew));have aQ:=J (bD.o.ext ((Ext.refl w3).drew));have fj:=J (bE.o.trans (KX.of_ext ((Ext.refl w3).drew)));have iw:=J cF.o;clear dL bD bE;refine wp_region_held_drew (S:=fun w'=>w'.cell? ⟨cb,0,none⟩=some (.pointer (some ⟨g,0,none⟩))/\w'.cell? ⟨nb,0,none⟩=some (.int .i64 kk)/\w'.cell? ⟨nb,1,none⟩=some (.int .i64 0)/\w'.cell? ⟨nb,2,none⟩=some (.int .i64 0)/\w'.cell? ⟨nb,3,none⟩=some (.int .i64 0)/\w'.cell? ⟨nb,4,none⟩=some (.string s)) (by kernel_rfl) (by exact dW.o) (fun hHeld=> ?_);refine' wpAnyH_take (i:=0) (oi:=⟨some 81,_,_,_,_,_⟩) (v:=_) rfl (by kernel_rfl) (by kernel_rfl) (by kernel_rfl) (fun _ _ _ h=>h) (Or.inl ⟨by rfl,?_⟩) hHeld ?_
 rotate_left
 ·(intro w' aa;(try dsimp only at aa);go_simp;(try with_reducible rfl))
 try simp only[pu]
 refine' wpAnyH_take (i:=1) (oi:=⟨some 82,_,_,_,_,_⟩) (v:=_) rfl (by kernel_rfl) (by kernel_rfl) (by kernel_rfl) (fun _ _ _ h=>h) (Or.inl ⟨by rfl,?_⟩) hHeld ?_
 rotate_left
 ·(intro w' aa;(try dsimp only at aa);go_simp;(try with_reducible rfl))
 try simp only[pu]
 refine' wpAnyH_take (i:=2) (oi:=⟨some 83,_,_,_,_,_⟩) (v:=_) rfl (by kernel_rfl) (by kernel_rfl) (by kernel_rfl) (fun _ _ _ h=>h) (Or.inl ⟨by rfl,?_⟩) hHeld ?_
 rotate_left
 ·(intro w' aa;(try dsimp only at aa);go_simp;(try with_reducible rfl))
 try simp only[pu]
 refine' wpAnyH_take (i:=3) (oi:=⟨some 84,_,_,_,_,_⟩) (v:=_) rfl (by kernel_rfl) (by kernel_rfl) (by kernel_rfl) (fun _ _ _ h=>h) (Or.inl ⟨by rfl,?_⟩) hHeld ?_
 rotate_left
 ·(intro w' aa;(try dsimp only at aa);go_simp;(try with_reducible rfl))
 try simp only[pu]
 refine' wpAnyH_take (i:=4) (oi:=⟨some 85,_,_,_,_,_⟩) (v:=_) rfl (by kernel_rfl) (by kernel_rfl) (by kernel_rfl) (fun _ _ _ h=>h) (Or.inl ⟨by rfl,?_⟩) hHeld ?_
 rotate_left
 ·(intro w' aa;(try dsimp only at aa);go_simp;(try with_reducible rfl))
 try simp only[pu]
 refine wpAnyH_ready (rs:=[5]) (by kernel_rfl) (by simp) ?_
 refine AllReadyH.cons (i:=5) rfl (fun K hK=> ?_) AllReadyH.nil;go_simp
 (go_at_call 104;refine(az.o _ _ bx.o.gr bx.o.mv).mono ?_;rintro e w9 ⟨VF,z9,c9,rfl,bz,eA⟩;have lZ:Hid (w9.cell? ⟨cb,0,none⟩=some (.pointer (some ⟨g,0,none⟩))):=J ((bz.blk bx.o.blk bx.o.apart.gc.symm bx.o.apart.bc.symm bx.o.apart.rc).threeC.1);have dk:=J (bz.blk aQ.o iw.o.g iw.o.b iw.o.nv);have eI:=J (fj.o.trans (KX.of_KG bz (Or.inl rfl) (Or.inr (Or.inl rfl))));have lV:=J (And.intro bz eA);clear bz eA)
 try go_wp2_with fail
 refine hK.out _ _ ?_ (fun hHeld=> ?_)
 ·exact⟨lZ.o,dk.o.five⟩
 clear hK K;try simp only[pu]
 refine' wpAnyH_take (i:=6) (oi:=⟨some 80,_,_,_,_,_⟩) (v:=_) rfl (by kernel_rfl) (by kernel_rfl) (by kernel_rfl) (fun _ _ _ h=>h) (Or.inl ⟨by rfl,?_⟩) hHeld ?_
 rotate_left
 ·(intro w' aa;(try dsimp only at aa);go_simp;(try with_reducible rfl))
 try simp only[pu]
 refine' wpAnyH_take (i:=7) (oi:=⟨some 87,_,_,_,_,_⟩) (v:=_) rfl (by kernel_rfl) (by kernel_rfl) (by kernel_rfl) (fun _ _ _ h=>h) (Or.inl ⟨by rfl,?_⟩) hHeld ?_
 rotate_left
 ·(intro w' aa;(try dsimp only at aa);go_simp;(try with_reducible rfl))
 try simp only[pu]
 refine' wpAnyH_take (i:=8) (oi:=⟨some 88,_,_,_,_,_⟩) (v:=_) rfl (by kernel_rfl) (by kernel_rfl) (by kernel_rfl) (fun _ _ _ h=>h) (Or.inl ⟨by rfl,?_⟩) hHeld ?_
 rotate_left
 ·(intro w' aa;(try dsimp only at aa);go_simp;(try with_reducible rfl))
 try simp only[pu]
 refine' wpAnyH_take (i:=9) (oi:=⟨some 10,_,_,_,_,_⟩) (v:=_) rfl (by kernel_rfl) (by kernel_rfl) (by kernel_rfl) (fun _ _ _ h=>h) (Or.inl ⟨by rfl,?_⟩) hHeld ?_
 rotate_left
 ·(intro w' aa;(try dsimp only at aa);go_simp;(try with_reducible rfl))
 try simp only[pu]
 refine' wpAnyH_take (i:=10) (oi:=⟨some 11,_,_,_,_,_⟩) (v:=_) rfl (by kernel_rfl) (by kernel_rfl) (by kernel_rfl) (fun _ _ _ h=>h) (Or.inl ⟨by rfl,?_⟩) hHeld ?_
 rotate_left
 ·(intro w' aa;(try dsimp only at aa);go_simp;(try with_reducible rfl))
 try simp only[pu]
 refine wpAnyH_done (by kernel_rfl) ?_ _
 clear hHeld dW aQ az dk lZ;rcases lV.o with ⟨bz,⟨jJ,rfl,rfl,eA⟩|⟨jJ,rfl,rfl⟩⟩
 ·have cM:=J (bx.o.put bz eA eO.o);clear lV bz eA jJ bx fj;obtain⟨c0,c1,c2,bU⟩:=cM.o.blk.threeC;obtain⟨tG,aV,ib,dt⟩:=cM.o.note lh.o lf.o;have HE:=J (And.intro ib (eI.o.grown dt (Or.inr (Or.inr rfl))));have cj:=J cM.o.gr.few;clear ib dt cM eI;go_wp2_with fail;go_ret2;exact⟨_,_,_,rfl,HE.o.2,.inl ⟨cj.o,rfl,rfl,_,HE.o.1⟩⟩
 ·have te:=J jJ;clear lV bz jJ bx fj;go_wp2_with fail;go_ret2;exact⟨_,_,_,rfl,eI.o,.inr ⟨te.o,rfl,rfl⟩⟩
theorem RY{ns:List Nd}{env:Env}{B g b bm dm cb:Nat}{w:World}{ms:List Nd}{nv:Value}{f:Int->Option Int}(h:WkP ns env B g b bm dm cb w ms nv f)(i j k:Nat)(n:Int)(hx:ns[i]? =some ⟨(k:Int),(j:Int),0,n,[]⟩)(ho:OI k n)(hf:f (i:Int)=none)(gf ms2:List Nd)(j1 pid:Nat)(ih1:(∀W nv f,WkP ns env B g b bm dm cb W ms nv f->Calls Tryz.prog 103 #[.pointer (some ⟨cb,0,none⟩),.int .i64 (j:Int)] W (ClP ns env B g b bm dm cb gf j1 nv W)))(et:∀W nv,GrP B g b W gf nv->BC W->Calls Tryz.prog 104 #[.pointer (some ⟨g,0,none⟩),ndV ⟨(k:Int),(j1:Int),0,n,[]⟩] W (PuP B g b ms2 pid nv W))(dH:gf <+: ms2)(e:Ex)(hc:AM ns env i e)(hr:Rep ms2 pid e):
  Calls Tryz.prog 103 #[.pointer (some ⟨cb,0,none⟩),.int .i64 (i:Int)] w (ClP ns env B g b bm dm cb ms2 pid nv w):=by
 have HS:=J h;have hfew:=h.gr.few;have hi:i<ms.length:=(List.getElem?_eq_some_iff.1 (AJ h.pre hx)).1;have ft:=(List.getElem?_eq_some_iff.1 (AJ h.pre hx)).2;have aN:=J (E4 B g b w ms nv h.gr (i:Int));rw[EX hi,ft]at aN;have cF:=J (h.new (nb:=w.heap.size) (Nat.le_refl _));obtain⟨c0,c1,c2,bU⟩:=h.blk.threeC;obtain⟨hl,_⟩:=h.map.look (k:=i) (by omega);rw[hf]at hl;simp only[Option.getD_none,Option.isSome_none]at hl;have lh:=J hc;have lf:=J hr;have az:=J et;have eO:=J dH;have dC:=J ih1;have hk2:((k:Int) == 2)=false:=by rw[beq_eq_false_iff_ne];have:=ho.1;omega
 have eK:decide ((k:Int)>=5)=true:=decide_eq_true (by have:=ho.1;omega);have vl:decide ((k:Int)>=6)=false\/(decide ((k:Int)>=6)=true/\decide ((k:Int)<=9)=false):=by
  rcases ho.1 with h5|h5
  ·exact .inl (decide_eq_false (by omega))
  ·exact .inr ⟨decide_eq_true (by omega),decide_eq_false (by omega)⟩
 have xj:=J vl;clear h hc hr ft hi hf hx et dH ho ih1 vl;generalize (k:Int)=kk at *;obtain⟨s,hs⟩:∃s:ByteArray,str ([]:Tx)= .string s:=⟨_,rfl⟩;simp only[ndV]at aN az;rw[hs]at aN az;clear hs;go_enter Tryz.func103,Tryz.ntmps103;go_wp2_with fail;refine aN.o.mono ?_
 rintro r w2 ⟨rfl,au⟩;have aq:=J au;have bD:=J (Blk.new w2 95 #[.int .i64 kk,.int .i64 (j:Int),.int .i64 0,.int .i64 n,.string s]);have aj:=J (au.alloc (.cells #[.int .i64 kk,.int .i64 (j:Int),.int .i64 0,.int .i64 n,.string s] 95));have fb:=J ((HS.o.keep au).new (nb:=w2.heap.size) (Nat.le_refl _));have eH:Hid (w.heap.size<=w2.heap.size):=J au.size;obtain⟨nb,hnb⟩:∃nb,nb=w2.heap.size:=⟨_,rfl⟩;obtain⟨w3,bf⟩:∃w3,w3=w2.alloc (.cells #[.int .i64 kk,.int .i64 (j:Int),.int .i64 0,.int .i64 n,.string s] 95):=⟨_,rfl⟩;rw[<-bf,<-hnb]at bD;rw[<-bf]at aj;rw[<-hnb]at fb eH;clear au aN cF hl c0 c1 c2 bU;go_upto_region 6 with fail;rw[<-bf,<-hnb];clear bf hnb;have dL:=J (HS.o.keep aj.o);have bE:Hid (KX (XP g b dm) nv nv w w3):=J (KX.of_ext aj.o);have cF:=J fb.o;have q0:=bD.o.five;obtain⟨c0,c1,c2,bU⟩:=dL.o.blk.threeC;clear fb aq HS;go_wp2_with fail;refine(dC.o w3 _ _ dL.o).mono ?_
 rintro r w6 ⟨ue,z6,e6,rfl,bK,kM⟩;have db:=J (cF.o.move bK bD.o.lt);have bZ:=cF.o.blk bK bD.o;have d0:=bZ.five;have df:=bZ.frozen 1;have kx:=bZ.lt;rcases kM with ⟨pI,rfl,rfl,f6,kM⟩|⟨pI,rfl,rfl⟩
 rotate_left
 ·have bv:=J (bZ.set_ 1 (.int .i64 0));have bT:=J ((bE.o.trans bK).setN (d:=nb) (j:=1) eH.o (.int .i64 0));have Vf:=J ((fun h=>Nat.lt_of_lt_of_le h eO.o.length_le) pI);obtain⟨km,cH⟩:∃x,x=w6.setCell ⟨nb,1,none⟩ (.int .i64 0):=⟨_,rfl⟩;rw[<-cH]at bv bT;clear bK bZ pI dC dL bD bE;go_upto_region 10 with fail;rw[<-cH];clear cH d0 df kx;have d0:=bv.o.five;go_wp2_with fail;go_ret2;exact⟨_,_,_,rfl,bT.o,.inr ⟨Vf.o,rfl,rfl⟩⟩
 have bv:=J (bZ.set_ 1 (.int .i64 (j1:Int)));have cC:=J (kM.far db.o.lo db.o.g db.o.cb db.o.dm db.o.b db.o.bm db.o.nv (j:=1) (.int .i64 (j1:Int)));have bT:=J ((bE.o.trans bK).setN (d:=nb) (j:=1) eH.o (.int .i64 (j1:Int)));obtain⟨km,cH⟩:∃x,x=w6.setCell ⟨nb,1,none⟩ (.int .i64 (j1:Int)):=⟨_,rfl⟩;rw[<-cH]at bv cC bT;clear kM bK bZ pI dC dL bD bE;go_upto_region 10 with fail;rw[<-cH];clear cH d0 df kx;have d0:=bv.o.five;rcases xj.o with bK|⟨bK,bz⟩
 all_goals
  clear xj cF c0 c1 c2 bU q0;clear d0;have d0:=bv.o.five;obtain⟨c0,c1,c2,bU⟩:=cC.o.blk.threeC;have dW:=J (And.intro c0 bv.o.five);go_upto_region 13 with fail;clear d0 c0 c1 c2 bU;have bx:=J (cC.o.keep ((Ext.refl km).drew));have aQ:=J (bv.o.ext ((Ext.refl km).drew));have fj:=J (bT.o.trans (KX.of_ext ((Ext.refl km).drew)));have iw:=J db.o;clear cC bv bT;refine wp_region_held_drew (S:=fun w'=>w'.cell? ⟨cb,0,none⟩=some (.pointer (some ⟨g,0,none⟩))/\w'.cell? ⟨nb,0,none⟩=some (.int .i64 kk)/\w'.cell? ⟨nb,1,none⟩=some (.int .i64 (j1:Int))/\w'.cell? ⟨nb,2,none⟩=some (.int .i64 0)/\w'.cell? ⟨nb,3,none⟩=some (.int .i64 n)/\w'.cell? ⟨nb,4,none⟩=some (.string s)) (by kernel_rfl) (by exact dW.o) (fun hHeld=> ?_);refine' wpAnyH_take (i:=0) (oi:=⟨some 81,_,_,_,_,_⟩) (v:=_) rfl (by kernel_rfl) (by kernel_rfl) (by kernel_rfl) (fun _ _ _ h=>h) (Or.inl ⟨by rfl,?_⟩) hHeld ?_
  rotate_left
  ·(intro w' aa;(try dsimp only at aa);go_simp;(try with_reducible rfl))
  try simp only[pu]
  refine' wpAnyH_take (i:=1) (oi:=⟨some 82,_,_,_,_,_⟩) (v:=_) rfl (by kernel_rfl) (by kernel_rfl) (by kernel_rfl) (fun _ _ _ h=>h) (Or.inl ⟨by rfl,?_⟩) hHeld ?_
  rotate_left
  ·(intro w' aa;(try dsimp only at aa);go_simp;(try with_reducible rfl))
  try simp only[pu]
  refine' wpAnyH_take (i:=2) (oi:=⟨some 83,_,_,_,_,_⟩) (v:=_) rfl (by kernel_rfl) (by kernel_rfl) (by kernel_rfl) (fun _ _ _ h=>h) (Or.inl ⟨by rfl,?_⟩) hHeld ?_
  rotate_left
  ·(intro w' aa;(try dsimp only at aa);go_simp;(try with_reducible rfl))
  try simp only[pu]
  refine' wpAnyH_take (i:=3) (oi:=⟨some 84,_,_,_,_,_⟩) (v:=_) rfl (by kernel_rfl) (by kernel_rfl) (by kernel_rfl) (fun _ _ _ h=>h) (Or.inl ⟨by rfl,?_⟩) hHeld ?_
  rotate_left
  ·(intro w' aa;(try dsimp only at aa);go_simp;(try with_reducible rfl))
  try simp only[pu]
  refine' wpAnyH_take (i:=4) (oi:=⟨some 85,_,_,_,_,_⟩) (v:=_) rfl (by kernel_rfl) (by kernel_rfl) (by kernel_rfl) (fun _ _ _ h=>h) (Or.inl ⟨by rfl,?_⟩) hHeld ?_
  rotate_left
  ·(intro w' aa;(try dsimp only at aa);go_simp;(try with_reducible rfl))
  try simp only[pu]
  refine wpAnyH_ready (rs:=[5]) (by kernel_rfl) (by simp) ?_
  refine AllReadyH.cons (i:=5) rfl (fun K hK=> ?_) AllReadyH.nil;go_simp
  (go_at_call 104;refine(az.o _ _ bx.o.gr bx.o.mv).mono ?_;rintro e w9 ⟨VF,z9,c9,rfl,bz,eA⟩;have lZ:Hid (w9.cell? ⟨cb,0,none⟩=some (.pointer (some ⟨g,0,none⟩))):=J ((bz.blk bx.o.blk bx.o.apart.gc.symm bx.o.apart.bc.symm bx.o.apart.rc).threeC.1);have dk:=J (bz.blk aQ.o iw.o.g iw.o.b iw.o.nv);have eI:=J (fj.o.trans (KX.of_KG bz (Or.inl rfl) (Or.inr (Or.inl rfl))));have lV:=J (And.intro bz eA);clear bz eA)
  try go_wp2_with fail
  refine hK.out _ _ ?_ (fun hHeld=> ?_)
  ·exact⟨lZ.o,dk.o.five⟩
  clear hK K;try simp only[pu]
  refine' wpAnyH_take (i:=6) (oi:=⟨some 80,_,_,_,_,_⟩) (v:=_) rfl (by kernel_rfl) (by kernel_rfl) (by kernel_rfl) (fun _ _ _ h=>h) (Or.inl ⟨by rfl,?_⟩) hHeld ?_
  rotate_left
  ·(intro w' aa;(try dsimp only at aa);go_simp;(try with_reducible rfl))
  try simp only[pu]
  refine' wpAnyH_take (i:=7) (oi:=⟨some 87,_,_,_,_,_⟩) (v:=_) rfl (by kernel_rfl) (by kernel_rfl) (by kernel_rfl) (fun _ _ _ h=>h) (Or.inl ⟨by rfl,?_⟩) hHeld ?_
  rotate_left
  ·(intro w' aa;(try dsimp only at aa);go_simp;(try with_reducible rfl))
  try simp only[pu]
  refine' wpAnyH_take (i:=8) (oi:=⟨some 88,_,_,_,_,_⟩) (v:=_) rfl (by kernel_rfl) (by kernel_rfl) (by kernel_rfl) (fun _ _ _ h=>h) (Or.inl ⟨by rfl,?_⟩) hHeld ?_
  rotate_left
  ·(intro w' aa;(try dsimp only at aa);go_simp;(try with_reducible rfl))
  try simp only[pu]
  refine' wpAnyH_take (i:=9) (oi:=⟨some 10,_,_,_,_,_⟩) (v:=_) rfl (by kernel_rfl) (by kernel_rfl) (by kernel_rfl) (fun _ _ _ h=>h) (Or.inl ⟨by rfl,?_⟩) hHeld ?_
  rotate_left
  ·(intro w' aa;(try dsimp only at aa);go_simp;(try with_reducible rfl))
  try simp only[pu]
  refine' wpAnyH_take (i:=10) (oi:=⟨some 11,_,_,_,_,_⟩) (v:=_) rfl (by kernel_rfl) (by kernel_rfl) (by kernel_rfl) (fun _ _ _ h=>h) (Or.inl ⟨by rfl,?_⟩) hHeld ?_
  rotate_left
  ·(intro w' aa;(try dsimp only at aa);go_simp;(try with_reducible rfl))
  try simp only[pu]
  refine wpAnyH_done (by kernel_rfl) ?_ _
  clear hHeld dW aQ az dk lZ;rcases lV.o with ⟨bz,⟨jJ,rfl,rfl,eA⟩|⟨jJ,rfl,rfl⟩⟩
  ·have cM:=J (bx.o.put bz eA eO.o);clear lV bz eA jJ bx fj;obtain⟨c0,c1,c2,bU⟩:=cM.o.blk.threeC;obtain⟨tG,aV,ib,dt⟩:=cM.o.note lh.o lf.o;have HE:=J (And.intro ib (eI.o.grown dt (Or.inr (Or.inr rfl))));have cj:=J cM.o.gr.few;clear ib dt cM eI;go_wp2_with fail;go_ret2;exact⟨_,_,_,rfl,HE.o.2,.inl ⟨cj.o,rfl,rfl,_,HE.o.1⟩⟩
  ·have te:=J jJ;clear lV bz jJ bx fj;go_wp2_with fail;go_ret2;exact⟨_,_,_,rfl,eI.o,.inr ⟨te.o,rfl,rfl⟩⟩
theorem QB{ns:List Nd}{env:Env}{B g b bm dm cb:Nat}{w:World}{ms:List Nd}{nv:Value}{f:Int->Option Int}(h:WkP ns env B g b bm dm cb w ms nv f)(i j q k:Nat)(hx:ns[i]? =some ⟨(k:Int),(j:Int),(q:Int),0,[]⟩)(ho:6<=k/\k<=9)(hf:f (i:Int)=none)(gf jA ms2:List Nd)(j1 y1 pid:Nat)(dS:gf <+: jA)(ih1:(∀W nv f,WkP ns env B g b bm dm cb W ms nv f->Calls Tryz.prog 103 #[.pointer (some ⟨cb,0,none⟩),.int .i64 (j:Int)] W (ClP ns env B g b bm dm cb gf j1 nv W)))(ih2:(∀W nv f,WkP ns env B g b bm dm cb W gf nv f->Calls Tryz.prog 103 #[.pointer (some ⟨cb,0,none⟩),.int .i64 (q:Int)] W (ClP ns env B g b bm dm cb jA y1 nv W)))(et:∀W nv,GrP B g b W jA nv->BC W->Calls Tryz.prog 104 #[.pointer (some ⟨g,0,none⟩),ndV ⟨(k:Int),(j1:Int),(y1:Int),0,[]⟩] W (PuP B g b ms2 pid nv W))(dH:jA <+: ms2)(e:Ex)(hc:AM ns env i e)(hr:Rep ms2 pid e):
  Calls Tryz.prog 103 #[.pointer (some ⟨cb,0,none⟩),.int .i64 (i:Int)] w (ClP ns env B g b bm dm cb ms2 pid nv w):=by
 have jZ:=J dS;clear dS;have HS:=J h;have hfew:=h.gr.few;have hi:i<ms.length:=(List.getElem?_eq_some_iff.1 (AJ h.pre hx)).1;have ft:=(List.getElem?_eq_some_iff.1 (AJ h.pre hx)).2;have aN:=J (E4 B g b w ms nv h.gr (i:Int));rw[EX hi,ft]at aN;have cF:=J (h.new (nb:=w.heap.size) (Nat.le_refl _));obtain⟨c0,c1,c2,bU⟩:=h.blk.threeC;obtain⟨hl,_⟩:=h.map.look (k:=i) (by omega);rw[hf]at hl;simp only[Option.getD_none,Option.isSome_none]at hl;have lh:=J hc;have lf:=J hr;have az:=J et;have eO:=J dH;have dC:=J ih1;have eY:=J ih2;have hk2:((k:Int) == 2)=false:=by rw[beq_eq_false_iff_ne];omega
 have eK:decide ((k:Int)>=5)=true:=decide_eq_true (by omega);have bK:decide ((k:Int)>=6)=true:=decide_eq_true (by omega);have bz:decide ((k:Int)<=9)=true:=decide_eq_true (by omega);clear h hc hr ft hi hf hx et dH ho ih1 ih2;generalize (k:Int)=kk at *;obtain⟨s,hs⟩:∃s:ByteArray,str ([]:Tx)= .string s:=⟨_,rfl⟩;simp only[ndV]at aN az;rw[hs]at aN az;clear hs;go_enter Tryz.func103,Tryz.ntmps103;go_wp2_with fail;refine aN.o.mono ?_
 rintro r w2 ⟨rfl,au⟩;have aq:=J au;have bD:=J (Blk.new w2 95 #[.int .i64 kk,.int .i64 (j:Int),.int .i64 (q:Int),.int .i64 0,.string s]);have aj:=J (au.alloc (.cells #[.int .i64 kk,.int .i64 (j:Int),.int .i64 (q:Int),.int .i64 0,.string s] 95));have fb:=J ((HS.o.keep au).new (nb:=w2.heap.size) (Nat.le_refl _));have eH:Hid (w.heap.size<=w2.heap.size):=J au.size;obtain⟨nb,hnb⟩:∃nb,nb=w2.heap.size:=⟨_,rfl⟩;obtain⟨w3,bf⟩:∃w3,w3=w2.alloc (.cells #[.int .i64 kk,.int .i64 (j:Int),.int .i64 (q:Int),.int .i64 0,.string s] 95):=⟨_,rfl⟩;rw[<-bf,<-hnb]at bD;rw[<-bf]at aj;rw[<-hnb]at fb eH;clear au aN cF hl c0 c1 c2 bU;go_upto_region 6 with fail;rw[<-bf,<-hnb];clear bf hnb;have dL:=J (HS.o.keep aj.o);have bE:Hid (KX (XP g b dm) nv nv w w3):=J (KX.of_ext aj.o);have cF:=J fb.o;have q0:=bD.o.five;obtain⟨c0,c1,c2,bU⟩:=dL.o.blk.threeC;clear fb aq HS;go_wp2_with fail;refine(dC.o w3 _ _ dL.o).mono ?_
 rintro r w6 ⟨ue,z6,e6,rfl,bK,kM⟩;have db:=J (cF.o.move bK bD.o.lt);have bZ:=cF.o.blk bK bD.o;have d0:=bZ.five;have df:=bZ.frozen 1;have kx:=bZ.lt;rcases kM with ⟨pI,rfl,rfl,f6,kM⟩|⟨pI,rfl,rfl⟩
 rotate_left
 ·have bv:=J (bZ.set_ 1 (.int .i64 0));have bT:=J ((bE.o.trans bK).setN (d:=nb) (j:=1) eH.o (.int .i64 0));have Vf:=J ((fun h=>Nat.lt_of_lt_of_le h (jZ.o.trans eO.o).length_le) pI);obtain⟨km,cH⟩:∃x,x=w6.setCell ⟨nb,1,none⟩ (.int .i64 0):=⟨_,rfl⟩;rw[<-cH]at bv bT;clear bK bZ pI dC dL bD bE;go_upto_region 10 with fail;rw[<-cH];clear cH d0 df kx;have d0:=bv.o.five;go_wp2_with fail;go_ret2;exact⟨_,_,_,rfl,bT.o,.inr ⟨Vf.o,rfl,rfl⟩⟩
 have bv:=J (bZ.set_ 1 (.int .i64 (j1:Int)));have cC:=J (kM.far db.o.lo db.o.g db.o.cb db.o.dm db.o.b db.o.bm db.o.nv (j:=1) (.int .i64 (j1:Int)));have bT:=J ((bE.o.trans bK).setN (d:=nb) (j:=1) eH.o (.int .i64 (j1:Int)));obtain⟨km,cH⟩:∃x,x=w6.setCell ⟨nb,1,none⟩ (.int .i64 (j1:Int)):=⟨_,rfl⟩;rw[<-cH]at bv cC bT;clear kM bK bZ pI dC dL bD bE;go_upto_region 10 with fail;rw[<-cH];clear cH d0 df kx;have d0:=bv.o.five;clear cF c0 c1 c2 bU q0;go_wp2_with fail;refine(eY.o km _ _ cC.o).mono ?_
 rintro r w8 ⟨nk,z8,e8,rfl,bJ,fR⟩;have iu:=J (db.o.move bJ bv.o.lt);have fF:=db.o.blk bJ bv.o;have d0:=fF.five;have df:=fF.frozen 2;have kx:=fF.lt;rcases fR with ⟨dI,rfl,rfl,f8,fR⟩|⟨dI,rfl,rfl⟩
 rotate_left
 ·have fP:=J (fF.set_ 2 (.int .i64 0));have eX:=J ((bT.o.trans bJ).setN (d:=nb) (j:=2) eH.o (.int .i64 0));have lS:=J ((fun h=>Nat.lt_of_lt_of_le h eO.o.length_le) dI);obtain⟨qq,cN⟩:∃x,x=w8.setCell ⟨nb,2,none⟩ (.int .i64 0):=⟨_,rfl⟩;rw[<-cN]at fP eX;clear bJ fF dI eY cC bv bT;go_upto_region 12 with fail;rw[<-cN];clear cN d0 df kx;have d0:=fP.o.five;go_wp2_with fail;go_ret2;exact⟨_,_,_,rfl,eX.o,.inr ⟨lS.o,rfl,rfl⟩⟩
 have fP:=J (fF.set_ 2 (.int .i64 (y1:Int)));have fa:=J (fR.far iu.o.lo iu.o.g iu.o.cb iu.o.dm iu.o.b iu.o.bm iu.o.nv (j:=2) (.int .i64 (y1:Int)));have eX:=J ((bT.o.trans bJ).setN (d:=nb) (j:=2) eH.o (.int .i64 (y1:Int)));obtain⟨qq,cN⟩:∃x,x=w8.setCell ⟨nb,2,none⟩ (.int .i64 (y1:Int)):=⟨_,rfl⟩;rw[<-cN]at fP fa eX;clear fR bJ fF dI eY cC bv bT;go_upto_region 12 with fail;rw[<-cN];clear cN d0 df kx;have d0:=fP.o.five;clear db d0;have d0:=fP.o.five;obtain⟨c0,c1,c2,bU⟩:=fa.o.blk.threeC;have dW:=J (And.intro c0 fP.o.five);go_upto_region 13 with fail;clear d0 c0 c1 c2 bU;have bx:=J (fa.o.keep ((Ext.refl qq).drew));have aQ:=J (fP.o.ext ((Ext.refl qq).drew));have fj:=J (eX.o.trans (KX.of_ext ((Ext.refl qq).drew)));have iw:=J iu.o;clear fa fP eX;refine wp_region_held_drew (S:=fun w'=>w'.cell? ⟨cb,0,none⟩=some (.pointer (some ⟨g,0,none⟩))/\w'.cell? ⟨nb,0,none⟩=some (.int .i64 kk)/\w'.cell? ⟨nb,1,none⟩=some (.int .i64 (j1:Int))/\w'.cell? ⟨nb,2,none⟩=some (.int .i64 (y1:Int))/\w'.cell? ⟨nb,3,none⟩=some (.int .i64 0)/\w'.cell? ⟨nb,4,none⟩=some (.string s)) (by kernel_rfl) (by exact dW.o) (fun hHeld=> ?_);refine' wpAnyH_take (i:=0) (oi:=⟨some 81,_,_,_,_,_⟩) (v:=_) rfl (by kernel_rfl) (by kernel_rfl) (by kernel_rfl) (fun _ _ _ h=>h) (Or.inl ⟨by rfl,?_⟩) hHeld ?_
 rotate_left
 ·(intro w' aa;(try dsimp only at aa);go_simp;(try with_reducible rfl))
 try simp only[pu]
 refine' wpAnyH_take (i:=1) (oi:=⟨some 82,_,_,_,_,_⟩) (v:=_) rfl (by kernel_rfl) (by kernel_rfl) (by kernel_rfl) (fun _ _ _ h=>h) (Or.inl ⟨by rfl,?_⟩) hHeld ?_
 rotate_left
 ·(intro w' aa;(try dsimp only at aa);go_simp;(try with_reducible rfl))
 try simp only[pu]
 refine' wpAnyH_take (i:=2) (oi:=⟨some 83,_,_,_,_,_⟩) (v:=_) rfl (by kernel_rfl) (by kernel_rfl) (by kernel_rfl) (fun _ _ _ h=>h) (Or.inl ⟨by rfl,?_⟩) hHeld ?_
 rotate_left
 ·(intro w' aa;(try dsimp only at aa);go_simp;(try with_reducible rfl))
 try simp only[pu]
 refine' wpAnyH_take (i:=3) (oi:=⟨some 84,_,_,_,_,_⟩) (v:=_) rfl (by kernel_rfl) (by kernel_rfl) (by kernel_rfl) (fun _ _ _ h=>h) (Or.inl ⟨by rfl,?_⟩) hHeld ?_
 rotate_left
 ·(intro w' aa;(try dsimp only at aa);go_simp;(try with_reducible rfl))
 try simp only[pu]
 refine' wpAnyH_take (i:=4) (oi:=⟨some 85,_,_,_,_,_⟩) (v:=_) rfl (by kernel_rfl) (by kernel_rfl) (by kernel_rfl) (fun _ _ _ h=>h) (Or.inl ⟨by rfl,?_⟩) hHeld ?_
 rotate_left
 ·(intro w' aa;(try dsimp only at aa);go_simp;(try with_reducible rfl))
 try simp only[pu]
 refine wpAnyH_ready (rs:=[5]) (by kernel_rfl) (by simp) ?_
 refine AllReadyH.cons (i:=5) rfl (fun K hK=> ?_) AllReadyH.nil;go_simp
 (go_at_call 104;refine(az.o _ _ bx.o.gr bx.o.mv).mono ?_;rintro e w9 ⟨VF,z9,c9,rfl,bz,eA⟩;have lZ:Hid (w9.cell? ⟨cb,0,none⟩=some (.pointer (some ⟨g,0,none⟩))):=J ((bz.blk bx.o.blk bx.o.apart.gc.symm bx.o.apart.bc.symm bx.o.apart.rc).threeC.1);have dk:=J (bz.blk aQ.o iw.o.g iw.o.b iw.o.nv);have eI:=J (fj.o.trans (KX.of_KG bz (Or.inl rfl) (Or.inr (Or.inl rfl))));have lV:=J (And.intro bz eA);clear bz eA)
 try go_wp2_with fail
 refine hK.out _ _ ?_ (fun hHeld=> ?_)
 ·exact⟨lZ.o,dk.o.five⟩
 clear hK K;try simp only[pu]
 refine' wpAnyH_take (i:=6) (oi:=⟨some 80,_,_,_,_,_⟩) (v:=_) rfl (by kernel_rfl) (by kernel_rfl) (by kernel_rfl) (fun _ _ _ h=>h) (Or.inl ⟨by rfl,?_⟩) hHeld ?_
 rotate_left
 ·(intro w' aa;(try dsimp only at aa);go_simp;(try with_reducible rfl))
 try simp only[pu]
 refine' wpAnyH_take (i:=7) (oi:=⟨some 87,_,_,_,_,_⟩) (v:=_) rfl (by kernel_rfl) (by kernel_rfl) (by kernel_rfl) (fun _ _ _ h=>h) (Or.inl ⟨by rfl,?_⟩) hHeld ?_
 rotate_left
 ·(intro w' aa;(try dsimp only at aa);go_simp;(try with_reducible rfl))
 try simp only[pu]
 refine' wpAnyH_take (i:=8) (oi:=⟨some 88,_,_,_,_,_⟩) (v:=_) rfl (by kernel_rfl) (by kernel_rfl) (by kernel_rfl) (fun _ _ _ h=>h) (Or.inl ⟨by rfl,?_⟩) hHeld ?_
 rotate_left
 ·(intro w' aa;(try dsimp only at aa);go_simp;(try with_reducible rfl))
 try simp only[pu]
 refine' wpAnyH_take (i:=9) (oi:=⟨some 10,_,_,_,_,_⟩) (v:=_) rfl (by kernel_rfl) (by kernel_rfl) (by kernel_rfl) (fun _ _ _ h=>h) (Or.inl ⟨by rfl,?_⟩) hHeld ?_
 rotate_left
 ·(intro w' aa;(try dsimp only at aa);go_simp;(try with_reducible rfl))
 try simp only[pu]
 refine' wpAnyH_take (i:=10) (oi:=⟨some 11,_,_,_,_,_⟩) (v:=_) rfl (by kernel_rfl) (by kernel_rfl) (by kernel_rfl) (fun _ _ _ h=>h) (Or.inl ⟨by rfl,?_⟩) hHeld ?_
 rotate_left
 ·(intro w' aa;(try dsimp only at aa);go_simp;(try with_reducible rfl))
 try simp only[pu]
 refine wpAnyH_done (by kernel_rfl) ?_ _
 clear hHeld dW aQ az dk lZ;rcases lV.o with ⟨bz,⟨jJ,rfl,rfl,eA⟩|⟨jJ,rfl,rfl⟩⟩
 ·have cM:=J (bx.o.put bz eA eO.o);clear lV bz eA jJ bx fj;obtain⟨c0,c1,c2,bU⟩:=cM.o.blk.threeC;obtain⟨tG,aV,ib,dt⟩:=cM.o.note lh.o lf.o;have HE:=J (And.intro ib (eI.o.grown dt (Or.inr (Or.inr rfl))));have cj:=J cM.o.gr.few;clear ib dt cM eI;go_wp2_with fail;go_ret2;exact⟨_,_,_,rfl,HE.o.2,.inl ⟨cj.o,rfl,rfl,_,HE.o.1⟩⟩
 ·have te:=J jJ;clear lV bz jJ bx fj;go_wp2_with fail;go_ret2;exact⟨_,_,_,rfl,eI.o,.inr ⟨te.o,rfl,rfl⟩⟩
theorem Oz{ns:List Nd}{env:Env}{B g b bm dm cb:Nat}{w:World}{ms:List Nd}{nv:Value}{f:Int->Option Int}(h:WkP ns env B g b bm dm cb w ms nv f)(i m:Nat)(t:Tx)(hx:ns[i]? =some ⟨2,0,0,0,t⟩)(tR:BW env t=some (m:Int))(hf:f (i:Int)=none)(ms2:List Nd)(pid:Nat)(ih1:(∀W nv f,WkP ns env B g b bm dm cb W ms nv f->Calls Tryz.prog 103 #[.pointer (some ⟨cb,0,none⟩),.int .i64 (m:Int)] W (ClP ns env B g b bm dm cb ms2 pid nv W)))(e:Ex)(hc:AM ns env i e)(hr:Rep ms2 pid e):
  Calls Tryz.prog 103 #[.pointer (some ⟨cb,0,none⟩),.int .i64 (i:Int)] w (ClP ns env B g b bm dm cb ms2 pid nv w):=by
 have HS:=J h;have hfew:=h.gr.few;have hi:i<ms.length:=(List.getElem?_eq_some_iff.1 (AJ h.pre hx)).1;have ft:=(List.getElem?_eq_some_iff.1 (AJ h.pre hx)).2;have aN:=J (E4 B g b w ms nv h.gr (i:Int));rw[EX hi,ft]at aN;have cF:=J (h.new (nb:=w.heap.size) (Nat.le_refl _));obtain⟨c0,c1,c2,bU⟩:=h.blk.threeC;obtain⟨hl,_⟩:=h.map.look (k:=i) (by omega);rw[hf]at hl;simp only[Option.getD_none,Option.isSome_none]at hl;have lh:=J hc;have lf:=J hr;have dC:=J ih1;have gj:t.length<=400:=by
  have av:=h.gr.ok.2 i _ (AJ h.pre hx);exact av.text
 have ki:=J (fun W (hb:D7 W bm env.length (BW env))=>(hb.look t (by unfold maxLen;omega)).2);rw[tR]at ki;simp only[Option.getD_some]at ki;clear h hc hr ft hi hf hx ih1 tR gj;obtain⟨s,hs⟩:∃s:ByteArray,str t= .string s:=⟨_,rfl⟩;simp only[ndV]at aN;rw[hs]at aN ki;clear hs;go_enter Tryz.func103,Tryz.ntmps103;go_wp2_with fail;refine aN.o.mono ?_
 rintro r w2 ⟨rfl,au⟩;have aq:=J au;have bD:=J (Blk.new w2 95 #[.int .i64 2,.int .i64 0,.int .i64 0,.int .i64 0,.string s]);have aj:=J (au.alloc (.cells #[.int .i64 2,.int .i64 0,.int .i64 0,.int .i64 0,.string s] 95));have fb:=J ((HS.o.keep au).new (nb:=w2.heap.size) (Nat.le_refl _));have eH:Hid (w.heap.size<=w2.heap.size):=J au.size;obtain⟨nb,hnb⟩:∃nb,nb=w2.heap.size:=⟨_,rfl⟩;obtain⟨w3,bf⟩:∃w3,w3=w2.alloc (.cells #[.int .i64 2,.int .i64 0,.int .i64 0,.int .i64 0,.string s] 95):=⟨_,rfl⟩;rw[<-bf,<-hnb]at bD;rw[<-bf]at aj;rw[<-hnb]at fb eH;clear au aN cF hl c0 c1 c2 bU;go_upto_region 6 with fail;rw[<-bf,<-hnb];clear bf hnb;have dL:=J (HS.o.keep aj.o);have bE:Hid (KX (XP g b dm) nv nv w w3):=J (KX.of_ext aj.o);have cF:=J fb.o;obtain⟨q0,q1,q2,q3,q4⟩:=bD.o.five;obtain⟨c0,c1,c2,bU⟩:=dL.o.blk.threeC;clear fb aq HS;have dW:=J (And.intro c1 q4);go_upto_region 7 with fail;clear q0 q1 q2 q3 q4 c0 c1 c2 bU;have bx:=J (dL.o.keep ((Ext.refl w3).drew));have aQ:=J (bD.o.ext ((Ext.refl w3).drew));have fj:=J (bE.o.trans (KX.of_ext ((Ext.refl w3).drew)));have kv:=ki.o w3.drew bx.o.bmap;clear dL bD bE aj ki;refine wp_region_held_drew (S:=fun w'=>w'.cell? ⟨cb,1,none⟩=some (.map (some bm))/\w'.cell? ⟨nb,4,none⟩=some (.string s)) (by kernel_rfl) (by exact dW.o) (fun hHeld=> ?_);refine' wpAnyH_take (i:=0) (oi:=⟨some 36,_,_,_,_,_⟩) (v:=_) rfl (by kernel_rfl) (by kernel_rfl) (by kernel_rfl) (fun _ _ _ h=>h) (Or.inl ⟨by rfl,?_⟩) hHeld ?_
 rotate_left
 ·(intro w' aa;(try dsimp only at aa);go_simp;(try with_reducible rfl))
 try simp only[pu]
 refine' wpAnyH_take (i:=1) (oi:=⟨some 37,_,_,_,_,_⟩) (v:=_) rfl (by kernel_rfl) (by kernel_rfl) (by kernel_rfl) (fun _ _ _ h=>h) (Or.inl ⟨by rfl,?_⟩) hHeld ?_
 rotate_left
 ·(intro w' aa;(try dsimp only at aa);go_simp;(try with_reducible rfl))
 try simp only[pu]
 refine' wpAnyH_take (i:=2) (oi:=⟨some 38,_,_,_,_,_⟩) (v:=_) rfl (by kernel_rfl) (by kernel_rfl) (by kernel_rfl) (fun _ _ _ h=>h) (Or.inl ⟨by rfl,?_⟩) hHeld ?_
 rotate_left
 ·(intro w' aa;(try dsimp only at aa);go_simp;(try with_reducible rfl))
 try simp only[pu]
 refine' wpAnyH_take (i:=3) (oi:=⟨some 39,_,_,_,_,_⟩) (v:=_) rfl (by kernel_rfl) (by kernel_rfl) (by kernel_rfl) (fun _ _ _ h=>h) (Or.inl ⟨by rfl,?_⟩) hHeld ?_
 rotate_left
 ·(intro w' aa;(try dsimp only at aa);go_simp;(try with_reducible rfl))
 try simp only[pu]
 refine' wpAnyH_take (i:=4) (oi:=⟨some 40,_,_,_,_,_⟩) (v:=_) rfl (by kernel_rfl) (by kernel_rfl) (by kernel_rfl) (fun _ _ _ h=>h) (Or.inl ⟨by rfl,?_⟩) hHeld ?_
 rotate_left
 ·(intro w' aa;(try dsimp only at aa);go_simp;(try with_reducible rfl))
 try simp only[pu]
 refine' wpAnyH_take (i:=5) (oi:=⟨some 41,_,_,_,_,_⟩) (v:=_) rfl (by kernel_rfl) (by kernel_rfl) (by kernel_rfl) (fun _ _ _ h=>h) (Or.inl ⟨by rfl,?_⟩) hHeld ?_
 rotate_left
 ·(intro w' aa;(try dsimp only at aa);go_simp;(try with_reducible rfl))
 try simp only[pu]
 refine' wpAnyH_take (i:=6) (oi:=⟨some 42,_,_,_,_,_⟩) (v:=_) rfl (by kernel_rfl) (by kernel_rfl) (by kernel_rfl) (fun _ _ _ h=>h) (Or.inl ⟨by rfl,?_⟩) hHeld ?_
 rotate_left
 ·(intro w' aa;(try dsimp only at aa);go_simp;(try with_reducible rfl))
 try simp only[pu]
 refine wpAnyH_ready (rs:=[7]) (by kernel_rfl) (by simp) ?_
 refine AllReadyH.cons (i:=7) rfl (fun K hK=> ?_) AllReadyH.nil;go_simp;try go_wp2_with fail
 refine hK.out _ _ ?_ (fun hHeld=> ?_)
 ·exact hHeld
 clear hK K;try simp only[pu]
 clear kv;refine wpAnyH_ready (rs:=[8]) (by kernel_rfl) (by simp) ?_
 refine AllReadyH.cons (i:=8) rfl (fun K hK=> ?_) AllReadyH.nil;go_simp
 (go_at_call 103;refine(dC.o _ _ _ bx.o).mono ?_;rintro r w8 ⟨nk,z8,e8,rfl,bJ,fR⟩;have jn:=J (cF.o.blk bJ aQ.o);have q9:Hid (w8.cell? ⟨cb,1,none⟩=some (.map (some bm))):=J ((bJ.blk bx.o.blk (fun hx=>hx.elim (fun e=>bx.o.apart.gc e.symm) (fun hx=>hx.elim (fun e=>bx.o.apart.bc e.symm) (fun e=>bx.o.apart.dc e.symm))) bx.o.apart.rc).threeC.2.1);have eX:=J (fj.o.trans bJ);have fa:=J fR;clear bJ fR)
 try go_wp2_with fail
 refine hK.out _ _ ?_ (fun hHeld=> ?_)
 ·exact⟨q9.o,jn.o.five.2.2.2.2⟩
 clear hK K;try simp only[pu]
 refine' wpAnyH_take (i:=9) (oi:=⟨some 35,_,_,_,_,_⟩) (v:=_) rfl (by kernel_rfl) (by kernel_rfl) (by kernel_rfl) (fun _ _ _ h=>h) (Or.inl ⟨by rfl,?_⟩) hHeld ?_
 rotate_left
 ·(intro w' aa;(try dsimp only at aa);go_simp;(try with_reducible rfl))
 try simp only[pu]
 refine' wpAnyH_take (i:=10) (oi:=⟨some 45,_,_,_,_,_⟩) (v:=_) rfl (by kernel_rfl) (by kernel_rfl) (by kernel_rfl) (fun _ _ _ h=>h) (Or.inl ⟨by rfl,?_⟩) hHeld ?_
 rotate_left
 ·(intro w' aa;(try dsimp only at aa);go_simp;(try with_reducible rfl))
 try simp only[pu]
 refine' wpAnyH_take (i:=11) (oi:=⟨some 46,_,_,_,_,_⟩) (v:=_) rfl (by kernel_rfl) (by kernel_rfl) (by kernel_rfl) (fun _ _ _ h=>h) (Or.inl ⟨by rfl,?_⟩) hHeld ?_
 rotate_left
 ·(intro w' aa;(try dsimp only at aa);go_simp;(try with_reducible rfl))
 try simp only[pu]
 refine' wpAnyH_take (i:=12) (oi:=⟨some 10,_,_,_,_,_⟩) (v:=_) rfl (by kernel_rfl) (by kernel_rfl) (by kernel_rfl) (fun _ _ _ h=>h) (Or.inl ⟨by rfl,?_⟩) hHeld ?_
 rotate_left
 ·(intro w' aa;(try dsimp only at aa);go_simp;(try with_reducible rfl))
 try simp only[pu]
 refine' wpAnyH_take (i:=13) (oi:=⟨some 11,_,_,_,_,_⟩) (v:=_) rfl (by kernel_rfl) (by kernel_rfl) (by kernel_rfl) (fun _ _ _ h=>h) (Or.inl ⟨by rfl,?_⟩) hHeld ?_
 rotate_left
 ·(intro w' aa;(try dsimp only at aa);go_simp;(try with_reducible rfl))
 try simp only[pu]
 refine wpAnyH_done (by kernel_rfl) ?_ _
 clear hHeld dW aQ fj jn q9 bx;rcases fa.o with ⟨dI,rfl,rfl,f8,fR⟩|⟨dI,rfl,rfl⟩
 ·have cM:=J fR;clear fa fR dI;obtain⟨c0,c1,c2,bU⟩:=cM.o.blk.threeC;obtain⟨tG,aV,ib,dt⟩:=cM.o.note lh.o lf.o;have HE:=J (And.intro ib (eX.o.grown dt (Or.inr (Or.inr rfl))));have cj:=J cM.o.gr.few;clear ib dt cM eX;go_wp2_with fail;go_ret2;exact⟨_,_,_,rfl,HE.o.2,.inl ⟨cj.o,rfl,rfl,_,HE.o.1⟩⟩
 ·have te:=J dI;clear fa dI;go_wp2_with fail;go_ret2;exact⟨_,_,_,rfl,eX.o,.inr ⟨te.o,rfl,rfl⟩⟩
theorem Blk.fourW{w:World}{g:Nat}{t:TypeId}{a b c d:Value}(h:Blk w g t #[a,b,c,d]):w.cell? ⟨g,0,none⟩=some a/\w.cell? ⟨g,1,none⟩=some b/\w.cell? ⟨g,2,none⟩=some c/\w.cell? ⟨g,3,none⟩=some d/\w.frozen? ⟨g,3,none⟩=false/\g<w.heap.size:=
 ⟨h.cell 0,h.cell 1,h.cell 2,h.cell 3,h.frozen 3,h.lt⟩
def NdP(ns:List Nd)(env:Env)(B g dm wb:Nat)(ev:Value)(ms2:List Nd)(pid:Nat)(rv:Value)(w:World)(r:Ending)(w':World):Prop:=
 ∃rv' f',r= .returned (.int .i64 (pid:Int))/\WkR ns env B g dm wb ev w' ms2 rv' f'/\KX (XR g dm wb) rv rv' w w'
theorem WkR.far{ns:List Nd}{env:Env}{B g dm wb:Nat}{ev:Value}{w:World}{ms:List Nd}{rv:Value}{f:Int->Option Int}(h:WkR ns env B g dm wb ev w ms rv f){nb j:Nat}(h1:nb≠g)(h2:nb≠wb)(h3:nb≠dm)(h4:ev.ownBlock≠some nb)(h5:rv.ownBlock≠some nb)(u:Value):WkR ns env B g dm wb ev (w.setCell ⟨nb,j,none⟩ u) ms rv f:=by
 have aC:∀k,k≠nb->(w.setCell ⟨nb,j,none⟩ u).heap[k]? =w.heap[k]? :=fun k hk=>Below.heap_setCell _ _ _ k hk
 exact⟨⟨(aC g h1.symm).trans h.gr.blk,AU h.gr.row (fun k hk=>aC k (fun e=>h5 (e ▸ hk))),h.gr.lo,h.gr.ok,h.gr.few⟩,h.pre,(aC wb h2.symm).trans h.blk,h.row.at (fun k hk=>aC k (fun e=>h4 (e ▸ hk))),h.map.at (aC dm h3.symm),h.done⟩
structure Nm (g dm wb:Nat) (ev rv:Value) (nb:Nat):Prop where
 g:nb≠g
 wb:nb≠wb
 dm:nb≠dm
 ev:ev.ownBlock≠some nb
 rv:rv.ownBlock≠some nb
theorem WkR.new{ns:List Nd}{env:Env}{B g dm wb:Nat}{ev:Value}{w:World}{ms:List Nd}{rv:Value}{f:Int->Option Int}(h:WkR ns env B g dm wb ev w ms rv f){nb:Nat}(hn:w.heap.size<=nb):Nm g dm wb ev rv nb:=
 ⟨by have:=h.gr.lt;omega,by have:=h.blk.lt;omega,by have:=h.map.lt;omega,fun e=>by have:=Ax h.row e;omega,fun e=>by have:=Ax h.gr.row e;omega⟩
theorem Nm.move{g dm wb:Nat}{ev rv rv':Value}{nb:Nat}{w w':World}(h:Nm g dm wb ev rv nb)(hk:KX (XR g dm wb) rv rv' w w')(hn:nb<w.heap.size):Nm g dm wb ev rv' nb:=
 ⟨h.g,h.wb,h.dm,h.ev,fun e=>by
  rcases hk.move nb e with h1|h1
  ·exact h.rv h1
  ·omega⟩
theorem Nm.blk{g dm wb:Nat}{ev rv rv':Value}{nb:Nat}{w w':World}{t:TypeId}{cs:Array Value}(h:Nm g dm wb ev rv nb)(hk:KX (XR g dm wb) rv rv' w w')(hb:Blk w nb t cs):Blk w' nb t cs:=
 hk.blk hb (fun hx=>hx.elim h.g (fun hx=>hx.elim h.dm h.wb)) h.rv
theorem Nm.cell{g dm wb:Nat}{ev rv rv':Value}{nb j:Nat}{u:Value}{w w':World}(h:Nm g dm wb ev rv nb)(hk:KX (XR g dm wb) rv rv' w w')(hb:w.cell? ⟨nb,j,none⟩=some u):w'.cell? ⟨nb,j,none⟩=some u:=by
 have hlt:=World.block_lt_of_cell? w _ hb;exact(World.cell?_of_block (a:=⟨nb,j,none⟩) (hk.block nb hlt (fun hx=>hx.elim h.g (fun hx=>hx.elim h.dm h.wb)) h.rv)).trans hb
theorem NK{ns:List Nd}{env:Env}{B g dm wb:Nat}{ev:Value}{w:World}{ms:List Nd}{rv:Value}{f:Int->Option Int}(h:WkR ns env B g dm wb ev w ms rv f)(i pid:Nat)(hi:i<=100000)(hf:f (i:Int)=some (pid:Int)):
  Calls Tryz.prog 105 #[.pointer (some ⟨wb,0,none⟩),.int .i64 (i:Int)] w (NdP ns env B g dm wb ev ms pid rv w):=by
 have HS:=J h;obtain⟨c0,c1,c2,c3,f3,bU⟩:=h.blk.fourW;obtain⟨hl,_⟩:=h.map.look (k:=i) (by omega);rw[hf]at hl;simp only[Option.getD_some,Option.isSome_some]at hl;clear h hf;go_enter Tryz.func105,Tryz.ntmps105;go_wp2_with fail;go_ret;exact⟨rv,f,rfl,HS.o,KX.of_ext (Ext.refl w)⟩
theorem NJ{ns:List Nd}{env:Env}{B g dm wb:Nat}{ev:Value}{w:World}{ms:List Nd}{rv:Value}{f:Int->Option Int}(h:WkR ns env B g dm wb ev w ms rv f)(i k:Nat)(t:Tx)(hx:ns[i]? =some ⟨(k:Int),0,0,0,t⟩)(hk:k≠2)(ho:ES k t)(hf:f (i:Int)=none)(ms2:List Nd)(pid:Nat)(et:∀W rv,GrR B g W ms rv->Calls Tryz.prog 138 #[.pointer (some ⟨g,0,none⟩),ndV ⟨(k:Int),0,0,0,t⟩] W fun r w'=>∃rv2,r= .returned (.tuple #[.int .i64 (pid:Int),.int .i64 0])/\KG g g rv rv2 W w'/\GrR B g w' ms2 rv2)(dH:ms <+: ms2)(e:Ex)(hc:AM ns env i e)(hr:Rep ms2 pid e):
  Calls Tryz.prog 105 #[.pointer (some ⟨wb,0,none⟩),.int .i64 (i:Int)] w (NdP ns env B g dm wb ev ms2 pid rv w):=by
 have HS:=J h;have hfew:=h.gr.few;have hi:i<ms.length:=(List.getElem?_eq_some_iff.1 (AJ h.pre hx)).1;have ft:=(List.getElem?_eq_some_iff.1 (AJ h.pre hx)).2;have av:=h.gr.ok.2 i _ (AJ h.pre hx);obtain⟨A,c,e7,aB⟩:=h.gr.row.read;have cF:=J (h.new (nb:=w.heap.size) (Nat.le_refl _));subst e7;obtain⟨gb,o,rfl,bO,aB⟩:=aB (by omega);have dg:=aB i hi;rw[ft]at dg;obtain⟨p0,p1,p2,p3,p4⟩:=dg;simp only at p0 p1 p2 p3 p4;obtain⟨c0,c1,c2,c3,f3,bU⟩:=h.blk.fourW;have g0:=h.gr.blk.oneG;obtain⟨hl,_⟩:=h.map.look (k:=i) (by omega);rw[hf]at hl;simp only[Option.getD_none,Option.isSome_none]at hl;have gA:(0:Int)<=(i:Int):=by omega
 have hin:(i:Int)<(ms.length:Int):=by omega
 have lh:=J hc;have lf:=J hr;have az:=J et;have eO:=J dH;have iC:=J (fun W=>EU W ⟨(k:Int),0,0,0,t⟩ av);rw[Dd ho]at iC;have hk2:((k:Int) == 2)=false:=by rw[beq_eq_false_iff_ne];omega
 clear h hc hr av ft aB hi hf hx et dH ho hk;generalize (k:Int)=kk at *;obtain⟨s,hs⟩:∃s:ByteArray,str t= .string s:=⟨_,rfl⟩;simp only[ndV]at iC az;rw[hs]at p4 iC az;clear hs;have bD:=J (Blk.new w 95 #[.int .i64 kk,.int .i64 0,.int .i64 0,.int .i64 0,.string s]);have aj:=J ((Ext.refl w).alloc (.cells #[.int .i64 kk,.int .i64 0,.int .i64 0,.int .i64 0,.string s] 95));obtain⟨nb,hnb⟩:∃nb,nb=w.heap.size:=⟨_,rfl⟩;obtain⟨w3,bf⟩:∃w3,w3=w.alloc (.cells #[.int .i64 kk,.int .i64 0,.int .i64 0,.int .i64 0,.string s] 95):=⟨_,rfl⟩;have eH:Hid (w.heap.size<=nb):=J (by omega);rw[<-bf,<-hnb]at bD;rw[<-bf]at aj;rw[<-hnb]at cF;go_enter Tryz.func105,Tryz.ntmps105;go_upto_region 5 with fail;rw[<-bf,<-hnb];clear bf hnb p0 p1 p2 p3 p4 c0 c1 c2 c3 f3 g0 hl;have dL:=J (HS.o.keep aj.o);have bE:Hid (KX (XR g dm wb) (.slice (some ⟨gb,o,none⟩) ms.length c) (.slice (some ⟨gb,o,none⟩) ms.length c) w w3):=J (KX.of_ext aj.o);have q0:=bD.o.five;go_wp2_with fail;refine(iC.o w3).mono ?_
 rintro e w4 ⟨A4,c4,rfl,aR,_⟩;have cp:=J (dL.o.keep aR);have mC:=J (bD.o.ext aR);have ei:=J (bE.o.trans (KX.of_ext aR));have hz:([]:List Nat).length=0:=rfl;rw[hz];clear q0 aR hz iC dL bD bE HS;have d0:=mC.o.five;obtain⟨c0,c1,c2,c3,f3,bU⟩:=cp.o.blk.fourW;have dW:=J (And.intro c0 mC.o.five);go_upto_region 15 with fail;clear d0 c0 c1 c2 c3 f3 bU;have bx:=J (cp.o.keep ((Ext.refl w4).drew));have aQ:=J (mC.o.ext ((Ext.refl w4).drew));have fj:=J (ei.o.trans (KX.of_ext ((Ext.refl w4).drew)));have iw:=J cF.o;clear cp mC ei;refine wp_region_held_drew (S:=fun w'=>w'.cell? ⟨wb,0,none⟩=some (.pointer (some ⟨g,0,none⟩))/\w'.cell? ⟨nb,0,none⟩=some (.int .i64 kk)/\w'.cell? ⟨nb,1,none⟩=some (.int .i64 0)/\w'.cell? ⟨nb,2,none⟩=some (.int .i64 0)/\w'.cell? ⟨nb,3,none⟩=some (.int .i64 0)/\w'.cell? ⟨nb,4,none⟩=some (.string s)) (by kernel_rfl) (by exact dW.o) (fun hHeld=> ?_);refine' wpAnyH_take (i:=0) (oi:=⟨some 88,_,_,_,_,_⟩) (v:=_) rfl (by kernel_rfl) (by kernel_rfl) (by kernel_rfl) (fun _ _ _ h=>h) (Or.inl ⟨by rfl,?_⟩) hHeld ?_
 rotate_left
 ·(intro w' aa;(try dsimp only at aa);go_simp;(try with_reducible rfl))
 try simp only[pu]
 refine' wpAnyH_take (i:=1) (oi:=⟨some 89,_,_,_,_,_⟩) (v:=_) rfl (by kernel_rfl) (by kernel_rfl) (by kernel_rfl) (fun _ _ _ h=>h) (Or.inl ⟨by rfl,?_⟩) hHeld ?_
 rotate_left
 ·(intro w' aa;(try dsimp only at aa);go_simp;(try with_reducible rfl))
 try simp only[pu]
 refine' wpAnyH_take (i:=2) (oi:=⟨some 90,_,_,_,_,_⟩) (v:=_) rfl (by kernel_rfl) (by kernel_rfl) (by kernel_rfl) (fun _ _ _ h=>h) (Or.inl ⟨by rfl,?_⟩) hHeld ?_
 rotate_left
 ·(intro w' aa;(try dsimp only at aa);go_simp;(try with_reducible rfl))
 try simp only[pu]
 refine' wpAnyH_take (i:=3) (oi:=⟨some 91,_,_,_,_,_⟩) (v:=_) rfl (by kernel_rfl) (by kernel_rfl) (by kernel_rfl) (fun _ _ _ h=>h) (Or.inl ⟨by rfl,?_⟩) hHeld ?_
 rotate_left
 ·(intro w' aa;(try dsimp only at aa);go_simp;(try with_reducible rfl))
 try simp only[pu]
 refine' wpAnyH_take (i:=4) (oi:=⟨some 92,_,_,_,_,_⟩) (v:=_) rfl (by kernel_rfl) (by kernel_rfl) (by kernel_rfl) (fun _ _ _ h=>h) (Or.inl ⟨by rfl,?_⟩) hHeld ?_
 rotate_left
 ·(intro w' aa;(try dsimp only at aa);go_simp;(try with_reducible rfl))
 try simp only[pu]
 refine wpAnyH_ready (rs:=[5]) (by kernel_rfl) (by simp) ?_
 refine AllReadyH.cons (i:=5) rfl (fun K hK=> ?_) AllReadyH.nil;go_simp
 (go_at_call 138;refine(az.o _ _ bx.o.gr).mono ?_;rintro e w9 ⟨VD,rfl,bz,eA⟩;have cM:=J (bx.o.put bz eA eO.o);have dk:=J (bz.blk aQ.o iw.o.g iw.o.g iw.o.rv);have eI:=J (fj.o.trans (KX.of_KG bz (Or.inl rfl) (Or.inl rfl)));clear bz eA)
 try go_wp2_with fail
 refine hK.out _ _ ?_ (fun hHeld=> ?_)
 ·exact⟨cM.o.blk.fourW.1,dk.o.five⟩
 clear hK K;try simp only[pu]
 refine' wpAnyH_take (i:=6) (oi:=⟨some 87,_,_,_,_,_⟩) (v:=_) rfl (by kernel_rfl) (by kernel_rfl) (by kernel_rfl) (fun _ _ _ h=>h) (Or.inl ⟨by rfl,?_⟩) hHeld ?_
 rotate_left
 ·(intro w' aa;(try dsimp only at aa);go_simp;(try with_reducible rfl))
 try simp only[pu]
 refine' wpAnyH_take (i:=7) (oi:=⟨some 94,_,_,_,_,_⟩) (v:=_) rfl (by kernel_rfl) (by kernel_rfl) (by kernel_rfl) (fun _ _ _ h=>h) (Or.inl ⟨by rfl,?_⟩) hHeld ?_
 rotate_left
 ·(intro w' aa;(try dsimp only at aa);go_simp;(try with_reducible rfl))
 try simp only[pu]
 refine' wpAnyH_take (i:=8) (oi:=⟨some 95,_,_,_,_,_⟩) (v:=_) rfl (by kernel_rfl) (by kernel_rfl) (by kernel_rfl) (fun _ _ _ h=>h) (Or.inl ⟨by rfl,?_⟩) hHeld ?_
 rotate_left
 ·(intro w' aa;(try dsimp only at aa);go_simp;(try with_reducible rfl))
 try simp only[pu]
 refine' wpAnyH_take (i:=9) (oi:=⟨some 9,_,_,_,_,_⟩) (v:=_) rfl (by kernel_rfl) (by kernel_rfl) (by kernel_rfl) (fun _ _ _ h=>h) (Or.inl ⟨by rfl,?_⟩) hHeld ?_
 rotate_left
 ·(intro w' aa;(try dsimp only at aa);go_simp;(try with_reducible rfl))
 try simp only[pu]
 refine' wpAnyH_take (i:=10) (oi:=⟨some 10,_,_,_,_,_⟩) (v:=_) rfl (by kernel_rfl) (by kernel_rfl) (by kernel_rfl) (fun _ _ _ h=>h) (Or.inl ⟨by rfl,?_⟩) hHeld ?_
 rotate_left
 ·(intro w' aa;(try dsimp only at aa);go_simp;(try with_reducible rfl))
 try simp only[pu]
 refine wpAnyH_done (by kernel_rfl) ?_ _
 clear hHeld dW bx aQ fj az dk;obtain⟨c0,c1,c2,c3,f3,bU⟩:=cM.o.blk.fourW;have gE:=J cM.o.bad;have iI:=J (eI.o.setX (d:=wb) (j:=3) (Or.inr (Or.inr rfl)) (.int .i64 0));obtain⟨po,hO⟩:∃po,po=w9.setCell ⟨wb,3,none⟩ (.int .i64 0):=⟨_,rfl⟩;rw[<-hO]at gE iI;obtain⟨b0,b1,b2,b3,WQ,z5⟩:=gE.o.blk.fourW;obtain⟨tG,aV,jW,dt⟩:=gE.o.note lh.o lf.o;have HE:=J (And.intro jW (iI.o.grown dt (Or.inr (Or.inl rfl))));clear jW dt gE iI cM eI;go_upto_region 17 with fail;rw[<-hO];clear hO c0 c1 c2 c3 f3 bU;go_wp2_with fail;go_ret;exact⟨_,_,rfl,HE.o.1,HE.o.2⟩
theorem Re{ns:List Nd}{env:Env}{B g dm wb:Nat}{ev:Value}{w:World}{ms:List Nd}{rv:Value}{f:Int->Option Int}(h:WkR ns env B g dm wb ev w ms rv f)(i j k:Nat)(n:Int)(hx:ns[i]? =some ⟨(k:Int),(j:Int),0,n,[]⟩)(ho:OI k n)(hf:f (i:Int)=none)(gf ms2:List Nd)(j1 pid:Nat)(ih1:(∀W rv f,WkR ns env B g dm wb ev W ms rv f->Calls Tryz.prog 105 #[.pointer (some ⟨wb,0,none⟩),.int .i64 (j:Int)] W (NdP ns env B g dm wb ev gf j1 rv W)))(et:∀W rv,GrR B g W gf rv->Calls Tryz.prog 138 #[.pointer (some ⟨g,0,none⟩),ndV ⟨(k:Int),(j1:Int),0,n,[]⟩] W fun r w'=>∃rv2,r= .returned (.tuple #[.int .i64 (pid:Int),.int .i64 0])/\KG g g rv rv2 W w'/\GrR B g w' ms2 rv2)(dH:gf <+: ms2)(e:Ex)(hc:AM ns env i e)(hr:Rep ms2 pid e):
  Calls Tryz.prog 105 #[.pointer (some ⟨wb,0,none⟩),.int .i64 (i:Int)] w (NdP ns env B g dm wb ev ms2 pid rv w):=by
 have HS:=J h;have hfew:=h.gr.few;have hi:i<ms.length:=(List.getElem?_eq_some_iff.1 (AJ h.pre hx)).1;have ft:=(List.getElem?_eq_some_iff.1 (AJ h.pre hx)).2;have av:=h.gr.ok.2 i _ (AJ h.pre hx);obtain⟨A,c,e7,aB⟩:=h.gr.row.read;have cF:=J (h.new (nb:=w.heap.size) (Nat.le_refl _));subst e7;obtain⟨gb,o,rfl,bO,aB⟩:=aB (by omega);have dg:=aB i hi;rw[ft]at dg;obtain⟨p0,p1,p2,p3,p4⟩:=dg;simp only at p0 p1 p2 p3 p4;obtain⟨c0,c1,c2,c3,f3,bU⟩:=h.blk.fourW;have g0:=h.gr.blk.oneG;obtain⟨hl,_⟩:=h.map.look (k:=i) (by omega);rw[hf]at hl;simp only[Option.getD_none,Option.isSome_none]at hl;have gA:(0:Int)<=(i:Int):=by omega
 have hin:(i:Int)<(ms.length:Int):=by omega
 have lh:=J hc;have lf:=J hr;have az:=J et;have eO:=J dH;have iC:=J (fun W=>EU W ⟨(k:Int),(j:Int),0,n,([]:Tx)⟩ av);rw[D2 ho]at iC;have dC:=J ih1;have hk2:((k:Int) == 2)=false:=by rw[beq_eq_false_iff_ne];have:=ho.1;omega
 clear h hc hr av ft aB hi hf hx et dH ho ih1;generalize (k:Int)=kk at *;obtain⟨s,hs⟩:∃s:ByteArray,str ([]:Tx)= .string s:=⟨_,rfl⟩;simp only[ndV]at iC az;rw[hs]at p4 iC az;clear hs;have bD:=J (Blk.new w 95 #[.int .i64 kk,.int .i64 (j:Int),.int .i64 0,.int .i64 n,.string s]);have aj:=J ((Ext.refl w).alloc (.cells #[.int .i64 kk,.int .i64 (j:Int),.int .i64 0,.int .i64 n,.string s] 95));obtain⟨nb,hnb⟩:∃nb,nb=w.heap.size:=⟨_,rfl⟩;obtain⟨w3,bf⟩:∃w3,w3=w.alloc (.cells #[.int .i64 kk,.int .i64 (j:Int),.int .i64 0,.int .i64 n,.string s] 95):=⟨_,rfl⟩;have eH:Hid (w.heap.size<=nb):=J (by omega);rw[<-bf,<-hnb]at bD;rw[<-bf]at aj;rw[<-hnb]at cF;go_enter Tryz.func105,Tryz.ntmps105;go_upto_region 5 with fail;rw[<-bf,<-hnb];clear bf hnb p0 p1 p2 p3 p4 c0 c1 c2 c3 f3 g0 hl;have dL:=J (HS.o.keep aj.o);have bE:Hid (KX (XR g dm wb) (.slice (some ⟨gb,o,none⟩) ms.length c) (.slice (some ⟨gb,o,none⟩) ms.length c) w w3):=J (KX.of_ext aj.o);have q0:=bD.o.five;go_wp2_with fail;refine(iC.o w3).mono ?_
 rintro e w4 ⟨A4,c4,rfl,aR,qL⟩;obtain⟨ab,rfl,pT,sq,mo⟩:=qL (by simp);have r0:=mo 0 (by simp);have cp:=J (dL.o.keep aR);have mC:=J (bD.o.ext aR);have ei:=J (bE.o.trans (KX.of_ext aR));have hz:([j]:List Nat).length=1:=rfl;rw[hz];have yD:w4.cell? ⟨ab,0,none⟩=some (.int .i64 (j:Int)):=r0;clear q0 aR hz iC dL bD bE HS r0 mo qL pT;go_wp2_with fail;refine(dC.o w4 _ _ cp.o).mono ?_
 rintro e w6 ⟨Xx,f6,rfl,kM,bK⟩;have sV:Hid (nb<w4.heap.size):=J mC.o.lt;have db:=J (cF.o.move bK sV.o);have bZ:=cF.o.blk bK mC.o;have bv:=J (bZ.set_ 1 (.int .i64 (j1:Int)));have cC:=J (kM.far db.o.g db.o.wb db.o.dm db.o.ev db.o.rv (j:=1) (.int .i64 (j1:Int)));have bT:=J ((ei.o.trans bK).setN (d:=nb) (j:=1) eH.o (.int .i64 (j1:Int)));have d0:=bZ.five;have df:=bZ.frozen 1;have kx:=bZ.lt;obtain⟨km,cH⟩:∃x,x=w6.setCell ⟨nb,1,none⟩ (.int .i64 (j1:Int)):=⟨_,rfl⟩;rw[<-cH]at bv cC bT;clear kM bK bZ dC cp mC ei;go_upto_region 11 with fail;rw[<-cH];clear cH d0 df kx yD sq cF;have d0:=bv.o.five;obtain⟨c0,c1,c2,c3,f3,bU⟩:=cC.o.blk.fourW;have dW:=J (And.intro c0 bv.o.five);go_upto_region 15 with fail;clear d0 c0 c1 c2 c3 f3 bU;have bx:=J (cC.o.keep ((Ext.refl km).drew));have aQ:=J (bv.o.ext ((Ext.refl km).drew));have fj:=J (bT.o.trans (KX.of_ext ((Ext.refl km).drew)));have iw:=J db.o;clear cC bv bT;refine wp_region_held_drew (S:=fun w'=>w'.cell? ⟨wb,0,none⟩=some (.pointer (some ⟨g,0,none⟩))/\w'.cell? ⟨nb,0,none⟩=some (.int .i64 kk)/\w'.cell? ⟨nb,1,none⟩=some (.int .i64 (j1:Int))/\w'.cell? ⟨nb,2,none⟩=some (.int .i64 0)/\w'.cell? ⟨nb,3,none⟩=some (.int .i64 n)/\w'.cell? ⟨nb,4,none⟩=some (.string s)) (by kernel_rfl) (by exact dW.o) (fun hHeld=> ?_);refine' wpAnyH_take (i:=0) (oi:=⟨some 88,_,_,_,_,_⟩) (v:=_) rfl (by kernel_rfl) (by kernel_rfl) (by kernel_rfl) (fun _ _ _ h=>h) (Or.inl ⟨by rfl,?_⟩) hHeld ?_
 rotate_left
 ·(intro w' aa;(try dsimp only at aa);go_simp;(try with_reducible rfl))
 try simp only[pu]
 refine' wpAnyH_take (i:=1) (oi:=⟨some 89,_,_,_,_,_⟩) (v:=_) rfl (by kernel_rfl) (by kernel_rfl) (by kernel_rfl) (fun _ _ _ h=>h) (Or.inl ⟨by rfl,?_⟩) hHeld ?_
 rotate_left
 ·(intro w' aa;(try dsimp only at aa);go_simp;(try with_reducible rfl))
 try simp only[pu]
 refine' wpAnyH_take (i:=2) (oi:=⟨some 90,_,_,_,_,_⟩) (v:=_) rfl (by kernel_rfl) (by kernel_rfl) (by kernel_rfl) (fun _ _ _ h=>h) (Or.inl ⟨by rfl,?_⟩) hHeld ?_
 rotate_left
 ·(intro w' aa;(try dsimp only at aa);go_simp;(try with_reducible rfl))
 try simp only[pu]
 refine' wpAnyH_take (i:=3) (oi:=⟨some 91,_,_,_,_,_⟩) (v:=_) rfl (by kernel_rfl) (by kernel_rfl) (by kernel_rfl) (fun _ _ _ h=>h) (Or.inl ⟨by rfl,?_⟩) hHeld ?_
 rotate_left
 ·(intro w' aa;(try dsimp only at aa);go_simp;(try with_reducible rfl))
 try simp only[pu]
 refine' wpAnyH_take (i:=4) (oi:=⟨some 92,_,_,_,_,_⟩) (v:=_) rfl (by kernel_rfl) (by kernel_rfl) (by kernel_rfl) (fun _ _ _ h=>h) (Or.inl ⟨by rfl,?_⟩) hHeld ?_
 rotate_left
 ·(intro w' aa;(try dsimp only at aa);go_simp;(try with_reducible rfl))
 try simp only[pu]
 refine wpAnyH_ready (rs:=[5]) (by kernel_rfl) (by simp) ?_
 refine AllReadyH.cons (i:=5) rfl (fun K hK=> ?_) AllReadyH.nil;go_simp
 (go_at_call 138;refine(az.o _ _ bx.o.gr).mono ?_;rintro e w9 ⟨VD,rfl,bz,eA⟩;have cM:=J (bx.o.put bz eA eO.o);have dk:=J (bz.blk aQ.o iw.o.g iw.o.g iw.o.rv);have eI:=J (fj.o.trans (KX.of_KG bz (Or.inl rfl) (Or.inl rfl)));clear bz eA)
 try go_wp2_with fail
 refine hK.out _ _ ?_ (fun hHeld=> ?_)
 ·exact⟨cM.o.blk.fourW.1,dk.o.five⟩
 clear hK K;try simp only[pu]
 refine' wpAnyH_take (i:=6) (oi:=⟨some 87,_,_,_,_,_⟩) (v:=_) rfl (by kernel_rfl) (by kernel_rfl) (by kernel_rfl) (fun _ _ _ h=>h) (Or.inl ⟨by rfl,?_⟩) hHeld ?_
 rotate_left
 ·(intro w' aa;(try dsimp only at aa);go_simp;(try with_reducible rfl))
 try simp only[pu]
 refine' wpAnyH_take (i:=7) (oi:=⟨some 94,_,_,_,_,_⟩) (v:=_) rfl (by kernel_rfl) (by kernel_rfl) (by kernel_rfl) (fun _ _ _ h=>h) (Or.inl ⟨by rfl,?_⟩) hHeld ?_
 rotate_left
 ·(intro w' aa;(try dsimp only at aa);go_simp;(try with_reducible rfl))
 try simp only[pu]
 refine' wpAnyH_take (i:=8) (oi:=⟨some 95,_,_,_,_,_⟩) (v:=_) rfl (by kernel_rfl) (by kernel_rfl) (by kernel_rfl) (fun _ _ _ h=>h) (Or.inl ⟨by rfl,?_⟩) hHeld ?_
 rotate_left
 ·(intro w' aa;(try dsimp only at aa);go_simp;(try with_reducible rfl))
 try simp only[pu]
 refine' wpAnyH_take (i:=9) (oi:=⟨some 9,_,_,_,_,_⟩) (v:=_) rfl (by kernel_rfl) (by kernel_rfl) (by kernel_rfl) (fun _ _ _ h=>h) (Or.inl ⟨by rfl,?_⟩) hHeld ?_
 rotate_left
 ·(intro w' aa;(try dsimp only at aa);go_simp;(try with_reducible rfl))
 try simp only[pu]
 refine' wpAnyH_take (i:=10) (oi:=⟨some 10,_,_,_,_,_⟩) (v:=_) rfl (by kernel_rfl) (by kernel_rfl) (by kernel_rfl) (fun _ _ _ h=>h) (Or.inl ⟨by rfl,?_⟩) hHeld ?_
 rotate_left
 ·(intro w' aa;(try dsimp only at aa);go_simp;(try with_reducible rfl))
 try simp only[pu]
 refine wpAnyH_done (by kernel_rfl) ?_ _
 clear hHeld dW bx aQ fj az dk;obtain⟨c0,c1,c2,c3,f3,bU⟩:=cM.o.blk.fourW;have gE:=J cM.o.bad;have iI:=J (eI.o.setX (d:=wb) (j:=3) (Or.inr (Or.inr rfl)) (.int .i64 0));obtain⟨po,hO⟩:∃po,po=w9.setCell ⟨wb,3,none⟩ (.int .i64 0):=⟨_,rfl⟩;rw[<-hO]at gE iI;obtain⟨b0,b1,b2,b3,WQ,z5⟩:=gE.o.blk.fourW;obtain⟨tG,aV,jW,dt⟩:=gE.o.note lh.o lf.o;have HE:=J (And.intro jW (iI.o.grown dt (Or.inr (Or.inl rfl))));clear jW dt gE iI cM eI;go_upto_region 17 with fail;rw[<-hO];clear hO c0 c1 c2 c3 f3 bU;go_wp2_with fail;go_ret;exact⟨_,_,rfl,HE.o.1,HE.o.2⟩
theorem PI{ns:List Nd}{env:Env}{B g dm wb:Nat}{ev:Value}{w:World}{ms:List Nd}{rv:Value}{f:Int->Option Int}(h:WkR ns env B g dm wb ev w ms rv f)(i j q k:Nat)(hx:ns[i]? =some ⟨(k:Int),(j:Int),(q:Int),0,[]⟩)(ho:6<=k/\k<=9)(hf:f (i:Int)=none)(gf jA ms2:List Nd)(j1 y1 pid:Nat)(ih1:(∀W rv f,WkR ns env B g dm wb ev W ms rv f->Calls Tryz.prog 105 #[.pointer (some ⟨wb,0,none⟩),.int .i64 (j:Int)] W (NdP ns env B g dm wb ev gf j1 rv W)))(ih2:(∀W rv f,WkR ns env B g dm wb ev W gf rv f->Calls Tryz.prog 105 #[.pointer (some ⟨wb,0,none⟩),.int .i64 (q:Int)] W (NdP ns env B g dm wb ev jA y1 rv W)))(et:∀W rv,GrR B g W jA rv->Calls Tryz.prog 138 #[.pointer (some ⟨g,0,none⟩),ndV ⟨(k:Int),(j1:Int),(y1:Int),0,[]⟩] W fun r w'=>∃rv2,r= .returned (.tuple #[.int .i64 (pid:Int),.int .i64 0])/\KG g g rv rv2 W w'/\GrR B g w' ms2 rv2)(dH:jA <+: ms2)(e:Ex)(hc:AM ns env i e)(hr:Rep ms2 pid e):
  Calls Tryz.prog 105 #[.pointer (some ⟨wb,0,none⟩),.int .i64 (i:Int)] w (NdP ns env B g dm wb ev ms2 pid rv w):=by
 have HS:=J h;have hfew:=h.gr.few;have hi:i<ms.length:=(List.getElem?_eq_some_iff.1 (AJ h.pre hx)).1;have ft:=(List.getElem?_eq_some_iff.1 (AJ h.pre hx)).2;have av:=h.gr.ok.2 i _ (AJ h.pre hx);obtain⟨A,c,e7,aB⟩:=h.gr.row.read;have cF:=J (h.new (nb:=w.heap.size) (Nat.le_refl _));subst e7;obtain⟨gb,o,rfl,bO,aB⟩:=aB (by omega);have dg:=aB i hi;rw[ft]at dg;obtain⟨p0,p1,p2,p3,p4⟩:=dg;simp only at p0 p1 p2 p3 p4;obtain⟨c0,c1,c2,c3,f3,bU⟩:=h.blk.fourW;have g0:=h.gr.blk.oneG;obtain⟨hl,_⟩:=h.map.look (k:=i) (by omega);rw[hf]at hl;simp only[Option.getD_none,Option.isSome_none]at hl;have gA:(0:Int)<=(i:Int):=by omega
 have hin:(i:Int)<(ms.length:Int):=by omega
 have lh:=J hc;have lf:=J hr;have az:=J et;have eO:=J dH;have iC:=J (fun W=>EU W ⟨(k:Int),(j:Int),(q:Int),0,([]:Tx)⟩ av);rw[CN ho]at iC;have dC:=J ih1;have eY:=J ih2;have hk2:((k:Int) == 2)=false:=by rw[beq_eq_false_iff_ne];omega
 clear h hc hr av ft aB hi hf hx et dH ho ih1 ih2;generalize (k:Int)=kk at *;obtain⟨s,hs⟩:∃s:ByteArray,str ([]:Tx)= .string s:=⟨_,rfl⟩;simp only[ndV]at iC az;rw[hs]at p4 iC az;clear hs;have bD:=J (Blk.new w 95 #[.int .i64 kk,.int .i64 (j:Int),.int .i64 (q:Int),.int .i64 0,.string s]);have aj:=J ((Ext.refl w).alloc (.cells #[.int .i64 kk,.int .i64 (j:Int),.int .i64 (q:Int),.int .i64 0,.string s] 95));obtain⟨nb,hnb⟩:∃nb,nb=w.heap.size:=⟨_,rfl⟩;obtain⟨w3,bf⟩:∃w3,w3=w.alloc (.cells #[.int .i64 kk,.int .i64 (j:Int),.int .i64 (q:Int),.int .i64 0,.string s] 95):=⟨_,rfl⟩;have eH:Hid (w.heap.size<=nb):=J (by omega);rw[<-bf,<-hnb]at bD;rw[<-bf]at aj;rw[<-hnb]at cF;go_enter Tryz.func105,Tryz.ntmps105;go_upto_region 5 with fail;rw[<-bf,<-hnb];clear bf hnb p0 p1 p2 p3 p4 c0 c1 c2 c3 f3 g0 hl;have dL:=J (HS.o.keep aj.o);have bE:Hid (KX (XR g dm wb) (.slice (some ⟨gb,o,none⟩) ms.length c) (.slice (some ⟨gb,o,none⟩) ms.length c) w w3):=J (KX.of_ext aj.o);have q0:=bD.o.five;go_wp2_with fail;refine(iC.o w3).mono ?_
 rintro e w4 ⟨A4,c4,rfl,aR,qL⟩;obtain⟨ab,rfl,pT,sq,mo⟩:=qL (by simp);have r0:=mo 0 (by simp);have r1:=mo 1 (by simp);have cp:=J (dL.o.keep aR);have mC:=J (bD.o.ext aR);have ei:=J (bE.o.trans (KX.of_ext aR));have Xk:=J (dL.o.new pT);have hz:([j,q]:List Nat).length=2:=rfl;rw[hz];have yD:w4.cell? ⟨ab,0,none⟩=some (.int .i64 (j:Int)):=r0;have i7:Hid (w4.cell? ⟨ab,1,none⟩=some (.int .i64 (q:Int))):=J r1;have Xm:Hid (ab≠nb):=J (by have:=bD.o.lt;omega);clear q0 aR hz iC dL bD bE HS r0 r1 mo qL pT;go_wp2_with fail;refine(dC.o w4 _ _ cp.o).mono ?_
 rintro e w6 ⟨Xx,f6,rfl,kM,bK⟩;have sV:Hid (nb<w4.heap.size):=J mC.o.lt;have db:=J (cF.o.move bK sV.o);have bZ:=cF.o.blk bK mC.o;have kj:=J (Xk.o.cell bK i7.o);have bv:=J (bZ.set_ 1 (.int .i64 (j1:Int)));have cC:=J (kM.far db.o.g db.o.wb db.o.dm db.o.ev db.o.rv (j:=1) (.int .i64 (j1:Int)));have bT:=J ((ei.o.trans bK).setN (d:=nb) (j:=1) eH.o (.int .i64 (j1:Int)));have d0:=bZ.five;have df:=bZ.frozen 1;have kx:=bZ.lt;obtain⟨km,cH⟩:∃x,x=w6.setCell ⟨nb,1,none⟩ (.int .i64 (j1:Int)):=⟨_,rfl⟩;rw[<-cH]at bv cC bT;clear kM bK bZ dC cp mC ei;have VE:km.cell? ⟨ab,1,none⟩=some (.int .i64 (q:Int)):=by
  rw[cH,World.cell?_of_block (a:=⟨ab,1,none⟩) (Below.heap_setCell _ _ _ ab Xm.o)];exact kj.o
 have Ul:ab<km.heap.size:=World.block_lt_of_cell? _ _ VE;go_upto_region 11 with fail;rw[<-cH];clear cH d0 df kx yD i7 kj sq cF;go_wp2_with fail;refine(eY.o km _ _ cC.o).mono ?_
 rintro e w8 ⟨Xv,f8,rfl,fR,bJ⟩;have U6:Hid (nb<km.heap.size):=J bv.o.lt;have iu:=J (db.o.move bJ U6.o);have fF:=db.o.blk bJ bv.o;have fP:=J (fF.set_ 2 (.int .i64 (y1:Int)));have fa:=J (fR.far iu.o.g iu.o.wb iu.o.dm iu.o.ev iu.o.rv (j:=2) (.int .i64 (y1:Int)));have eX:=J ((bT.o.trans bJ).setN (d:=nb) (j:=2) eH.o (.int .i64 (y1:Int)));have d0:=fF.five;have df:=fF.frozen 2;have kx:=fF.lt;obtain⟨qq,cN⟩:∃x,x=w8.setCell ⟨nb,2,none⟩ (.int .i64 (y1:Int)):=⟨_,rfl⟩;rw[<-cN]at fP fa eX;clear fR bJ fF eY cC bv bT;go_upto_region 13 with fail;rw[<-cN];clear cN d0 df kx VE Ul db Xk Xm;have d0:=fP.o.five;obtain⟨c0,c1,c2,c3,f3,bU⟩:=fa.o.blk.fourW;have dW:=J (And.intro c0 fP.o.five);go_upto_region 15 with fail;clear d0 c0 c1 c2 c3 f3 bU;have bx:=J (fa.o.keep ((Ext.refl qq).drew));have aQ:=J (fP.o.ext ((Ext.refl qq).drew));have fj:=J (eX.o.trans (KX.of_ext ((Ext.refl qq).drew)));have iw:=J iu.o;clear fa fP eX;refine wp_region_held_drew (S:=fun w'=>w'.cell? ⟨wb,0,none⟩=some (.pointer (some ⟨g,0,none⟩))/\w'.cell? ⟨nb,0,none⟩=some (.int .i64 kk)/\w'.cell? ⟨nb,1,none⟩=some (.int .i64 (j1:Int))/\w'.cell? ⟨nb,2,none⟩=some (.int .i64 (y1:Int))/\w'.cell? ⟨nb,3,none⟩=some (.int .i64 0)/\w'.cell? ⟨nb,4,none⟩=some (.string s)) (by kernel_rfl) (by exact dW.o) (fun hHeld=> ?_);refine' wpAnyH_take (i:=0) (oi:=⟨some 88,_,_,_,_,_⟩) (v:=_) rfl (by kernel_rfl) (by kernel_rfl) (by kernel_rfl) (fun _ _ _ h=>h) (Or.inl ⟨by rfl,?_⟩) hHeld ?_
 rotate_left
 ·(intro w' aa;(try dsimp only at aa);go_simp;(try with_reducible rfl))
 try simp only[pu]
 refine' wpAnyH_take (i:=1) (oi:=⟨some 89,_,_,_,_,_⟩) (v:=_) rfl (by kernel_rfl) (by kernel_rfl) (by kernel_rfl) (fun _ _ _ h=>h) (Or.inl ⟨by rfl,?_⟩) hHeld ?_
 rotate_left
 ·(intro w' aa;(try dsimp only at aa);go_simp;(try with_reducible rfl))
 try simp only[pu]
 refine' wpAnyH_take (i:=2) (oi:=⟨some 90,_,_,_,_,_⟩) (v:=_) rfl (by kernel_rfl) (by kernel_rfl) (by kernel_rfl) (fun _ _ _ h=>h) (Or.inl ⟨by rfl,?_⟩) hHeld ?_
 rotate_left
 ·(intro w' aa;(try dsimp only at aa);go_simp;(try with_reducible rfl))
 try simp only[pu]
 refine' wpAnyH_take (i:=3) (oi:=⟨some 91,_,_,_,_,_⟩) (v:=_) rfl (by kernel_rfl) (by kernel_rfl) (by kernel_rfl) (fun _ _ _ h=>h) (Or.inl ⟨by rfl,?_⟩) hHeld ?_
 rotate_left
 ·(intro w' aa;(try dsimp only at aa);go_simp;(try with_reducible rfl))
 try simp only[pu]
 refine' wpAnyH_take (i:=4) (oi:=⟨some 92,_,_,_,_,_⟩) (v:=_) rfl (by kernel_rfl) (by kernel_rfl) (by kernel_rfl) (fun _ _ _ h=>h) (Or.inl ⟨by rfl,?_⟩) hHeld ?_
 rotate_left
 ·(intro w' aa;(try dsimp only at aa);go_simp;(try with_reducible rfl))
 try simp only[pu]
 refine wpAnyH_ready (rs:=[5]) (by kernel_rfl) (by simp) ?_
 refine AllReadyH.cons (i:=5) rfl (fun K hK=> ?_) AllReadyH.nil;go_simp
 (go_at_call 138;refine(az.o _ _ bx.o.gr).mono ?_;rintro e w9 ⟨VD,rfl,bz,eA⟩;have cM:=J (bx.o.put bz eA eO.o);have dk:=J (bz.blk aQ.o iw.o.g iw.o.g iw.o.rv);have eI:=J (fj.o.trans (KX.of_KG bz (Or.inl rfl) (Or.inl rfl)));clear bz eA)
 try go_wp2_with fail
 refine hK.out _ _ ?_ (fun hHeld=> ?_)
 ·exact⟨cM.o.blk.fourW.1,dk.o.five⟩
 clear hK K;try simp only[pu]
 refine' wpAnyH_take (i:=6) (oi:=⟨some 87,_,_,_,_,_⟩) (v:=_) rfl (by kernel_rfl) (by kernel_rfl) (by kernel_rfl) (fun _ _ _ h=>h) (Or.inl ⟨by rfl,?_⟩) hHeld ?_
 rotate_left
 ·(intro w' aa;(try dsimp only at aa);go_simp;(try with_reducible rfl))
 try simp only[pu]
 refine' wpAnyH_take (i:=7) (oi:=⟨some 94,_,_,_,_,_⟩) (v:=_) rfl (by kernel_rfl) (by kernel_rfl) (by kernel_rfl) (fun _ _ _ h=>h) (Or.inl ⟨by rfl,?_⟩) hHeld ?_
 rotate_left
 ·(intro w' aa;(try dsimp only at aa);go_simp;(try with_reducible rfl))
 try simp only[pu]
 refine' wpAnyH_take (i:=8) (oi:=⟨some 95,_,_,_,_,_⟩) (v:=_) rfl (by kernel_rfl) (by kernel_rfl) (by kernel_rfl) (fun _ _ _ h=>h) (Or.inl ⟨by rfl,?_⟩) hHeld ?_
 rotate_left
 ·(intro w' aa;(try dsimp only at aa);go_simp;(try with_reducible rfl))
 try simp only[pu]
 refine' wpAnyH_take (i:=9) (oi:=⟨some 9,_,_,_,_,_⟩) (v:=_) rfl (by kernel_rfl) (by kernel_rfl) (by kernel_rfl) (fun _ _ _ h=>h) (Or.inl ⟨by rfl,?_⟩) hHeld ?_
 rotate_left
 ·(intro w' aa;(try dsimp only at aa);go_simp;(try with_reducible rfl))
 try simp only[pu]
 refine' wpAnyH_take (i:=10) (oi:=⟨some 10,_,_,_,_,_⟩) (v:=_) rfl (by kernel_rfl) (by kernel_rfl) (by kernel_rfl) (fun _ _ _ h=>h) (Or.inl ⟨by rfl,?_⟩) hHeld ?_
 rotate_left
 ·(intro w' aa;(try dsimp only at aa);go_simp;(try with_reducible rfl))
 try simp only[pu]
 refine wpAnyH_done (by kernel_rfl) ?_ _
 clear hHeld dW bx aQ fj az dk;obtain⟨c0,c1,c2,c3,f3,bU⟩:=cM.o.blk.fourW;have gE:=J cM.o.bad;have iI:=J (eI.o.setX (d:=wb) (j:=3) (Or.inr (Or.inr rfl)) (.int .i64 0));obtain⟨po,hO⟩:∃po,po=w9.setCell ⟨wb,3,none⟩ (.int .i64 0):=⟨_,rfl⟩;rw[<-hO]at gE iI;obtain⟨b0,b1,b2,b3,WQ,z5⟩:=gE.o.blk.fourW;obtain⟨tG,aV,jW,dt⟩:=gE.o.note lh.o lf.o;have HE:=J (And.intro jW (iI.o.grown dt (Or.inr (Or.inl rfl))));clear jW dt gE iI cM eI;go_upto_region 17 with fail;rw[<-hO];clear hO c0 c1 c2 c3 f3 bU;go_wp2_with fail;go_ret;exact⟨_,_,rfl,HE.o.1,HE.o.2⟩
theorem NI{ns:List Nd}{env:Env}{B g dm wb:Nat}{ev:Value}{w:World}{ms:List Nd}{rv:Value}{f:Int->Option Int}(h:WkR ns env B g dm wb ev w ms rv f)(i m:Nat)(t:Tx)(ao:env.length<=64)(hx:ns[i]? =some ⟨2,0,0,0,t⟩)(tR:Ao env t=(m:Int))(hf:f (i:Int)=none)(ms2:List Nd)(pid:Nat)(ih1:(∀W rv f,WkR ns env B g dm wb ev W ms rv f->Calls Tryz.prog 105 #[.pointer (some ⟨wb,0,none⟩),.int .i64 (m:Int)] W (NdP ns env B g dm wb ev ms2 pid rv W)))(e:Ex)(hc:AM ns env i e)(hr:Rep ms2 pid e):
  Calls Tryz.prog 105 #[.pointer (some ⟨wb,0,none⟩),.int .i64 (i:Int)] w (NdP ns env B g dm wb ev ms2 pid rv w):=by
 have HS:=J h;have hfew:=h.gr.few;have hi:i<ms.length:=(List.getElem?_eq_some_iff.1 (AJ h.pre hx)).1;have ft:=(List.getElem?_eq_some_iff.1 (AJ h.pre hx)).2;have av:=h.gr.ok.2 i _ (AJ h.pre hx);obtain⟨A,c,e7,aB⟩:=h.gr.row.read;have cF:=J (h.new (nb:=w.heap.size) (Nat.le_refl _));subst e7;obtain⟨gb,o,rfl,bO,aB⟩:=aB (by omega);have dg:=aB i hi;rw[ft]at dg;obtain⟨p0,p1,p2,p3,p4⟩:=dg;simp only at p0 p1 p2 p3 p4;obtain⟨c0,c1,c2,c3,f3,bU⟩:=h.blk.fourW;have g0:=h.gr.blk.oneG;obtain⟨hl,_⟩:=h.map.look (k:=i) (by omega);rw[hf]at hl;simp only[Option.getD_none,Option.isSome_none]at hl;have gA:(0:Int)<=(i:Int):=by omega
 have hin:(i:Int)<(ms.length:Int):=by omega
 have lh:=J hc;have lf:=J hr;have dn:=J (fun W (hx:Ext w W)=>DS W ev env (h.row.read.ext hx) (by omega) t);rw[tR]at dn;have dC:=J ih1;clear h hc hr av ft aB hi hf hx ih1 tR;obtain⟨s,hs⟩:∃s:ByteArray,str t= .string s:=⟨_,rfl⟩;rw[hs]at p4 dn;clear hs;have bD:=J (Blk.new w 95 #[.int .i64 2,.int .i64 0,.int .i64 0,.int .i64 0,.string s]);have aj:=J ((Ext.refl w).alloc (.cells #[.int .i64 2,.int .i64 0,.int .i64 0,.int .i64 0,.string s] 95));obtain⟨nb,hnb⟩:∃nb,nb=w.heap.size:=⟨_,rfl⟩;obtain⟨w3,bf⟩:∃w3,w3=w.alloc (.cells #[.int .i64 2,.int .i64 0,.int .i64 0,.int .i64 0,.string s] 95):=⟨_,rfl⟩;have eH:Hid (w.heap.size<=nb):=J (by omega);rw[<-bf,<-hnb]at bD;rw[<-bf]at aj;rw[<-hnb]at cF;go_enter Tryz.func105,Tryz.ntmps105;go_upto_region 5 with fail;rw[<-bf,<-hnb];clear bf hnb p0 p1 p2 p3 p4 c0 c1 c2 c3 f3 g0 hl;have dL:=J (HS.o.keep aj.o);have bE:Hid (KX (XR g dm wb) (.slice (some ⟨gb,o,none⟩) ms.length c) (.slice (some ⟨gb,o,none⟩) ms.length c) w w3):=J (KX.of_ext aj.o);obtain⟨q0,q1,q2,q3,q4⟩:=bD.o.five;obtain⟨c0,c1,c2,c3,f3,bU⟩:=dL.o.blk.fourW;have dW:=J (And.intro c0 (And.intro c1 (And.intro c2 q4)));go_upto_region 6 with fail;clear q0 q1 q2 q3 q4 c0 c1 c2 c3 f3 bU;have bx:=J (dL.o.keep ((Ext.refl w3).drew));have aQ:=J (bD.o.ext ((Ext.refl w3).drew));have fj:=J (bE.o.trans (KX.of_ext ((Ext.refl w3).drew)));have ZK:=J (aj.o.trans ((Ext.refl w3).drew));clear dL bD bE aj;refine wp_region_held_drew (S:=fun w'=>w'.cell? ⟨wb,0,none⟩=some (.pointer (some ⟨g,0,none⟩))/\w'.cell? ⟨wb,1,none⟩=some ev/\w'.cell? ⟨wb,2,none⟩=some (.map (some dm))/\w'.cell? ⟨nb,4,none⟩=some (.string s)) (by kernel_rfl) (by exact dW.o) (fun hHeld=> ?_);refine' wpAnyH_take (i:=0) (oi:=⟨some 42,_,_,_,_,_⟩) (v:=_) rfl (by kernel_rfl) (by kernel_rfl) (by kernel_rfl) (fun _ _ _ h=>h) (Or.inl ⟨by rfl,?_⟩) hHeld ?_
 rotate_left
 ·(intro w' aa;(try dsimp only at aa);go_simp;(try with_reducible rfl))
 try simp only[pu]
 refine' wpAnyH_take (i:=1) (oi:=⟨some 43,_,_,_,_,_⟩) (v:=_) rfl (by kernel_rfl) (by kernel_rfl) (by kernel_rfl) (fun _ _ _ h=>h) (Or.inl ⟨by rfl,?_⟩) hHeld ?_
 rotate_left
 ·(intro w' aa;(try dsimp only at aa);go_simp;(try with_reducible rfl))
 try simp only[pu]
 refine' wpAnyH_take (i:=2) (oi:=⟨some 44,_,_,_,_,_⟩) (v:=_) rfl (by kernel_rfl) (by kernel_rfl) (by kernel_rfl) (fun _ _ _ h=>h) (Or.inl ⟨by rfl,?_⟩) hHeld ?_
 rotate_left
 ·(intro w' aa;(try dsimp only at aa);go_simp;(try with_reducible rfl))
 try simp only[pu]
 refine' wpAnyH_take (i:=3) (oi:=⟨some 45,_,_,_,_,_⟩) (v:=_) rfl (by kernel_rfl) (by kernel_rfl) (by kernel_rfl) (fun _ _ _ h=>h) (Or.inl ⟨by rfl,?_⟩) hHeld ?_
 rotate_left
 ·(intro w' aa;(try dsimp only at aa);go_simp;(try with_reducible rfl))
 try simp only[pu]
 refine' wpAnyH_take (i:=4) (oi:=⟨some 46,_,_,_,_,_⟩) (v:=_) rfl (by kernel_rfl) (by kernel_rfl) (by kernel_rfl) (fun _ _ _ h=>h) (Or.inl ⟨by rfl,?_⟩) hHeld ?_
 rotate_left
 ·(intro w' aa;(try dsimp only at aa);go_simp;(try with_reducible rfl))
 try simp only[pu]
 refine' wpAnyH_take (i:=5) (oi:=⟨some 47,_,_,_,_,_⟩) (v:=_) rfl (by kernel_rfl) (by kernel_rfl) (by kernel_rfl) (fun _ _ _ h=>h) (Or.inl ⟨by rfl,?_⟩) hHeld ?_
 rotate_left
 ·(intro w' aa;(try dsimp only at aa);go_simp;(try with_reducible rfl))
 try simp only[pu]
 refine' wpAnyH_take (i:=6) (oi:=⟨some 48,_,_,_,_,_⟩) (v:=_) rfl (by kernel_rfl) (by kernel_rfl) (by kernel_rfl) (fun _ _ _ h=>h) (Or.inl ⟨by rfl,?_⟩) hHeld ?_
 rotate_left
 ·(intro w' aa;(try dsimp only at aa);go_simp;(try with_reducible rfl))
 try simp only[pu]
 refine' wpAnyH_take (i:=7) (oi:=⟨some 49,_,_,_,_,_⟩) (v:=_) rfl (by kernel_rfl) (by kernel_rfl) (by kernel_rfl) (fun _ _ _ h=>h) (Or.inl ⟨by rfl,?_⟩) hHeld ?_
 rotate_left
 ·(intro w' aa;(try dsimp only at aa);go_simp;(try with_reducible rfl))
 try simp only[pu]
 refine' wpAnyH_take (i:=8) (oi:=⟨some 50,_,_,_,_,_⟩) (v:=_) rfl (by kernel_rfl) (by kernel_rfl) (by kernel_rfl) (fun _ _ _ h=>h) (Or.inl ⟨by rfl,?_⟩) hHeld ?_
 rotate_left
 ·(intro w' aa;(try dsimp only at aa);go_simp;(try with_reducible rfl))
 try simp only[pu]
 refine' wpAnyH_take (i:=9) (oi:=⟨some 51,_,_,_,_,_⟩) (v:=_) rfl (by kernel_rfl) (by kernel_rfl) (by kernel_rfl) (fun _ _ _ h=>h) (Or.inl ⟨by rfl,?_⟩) hHeld ?_
 rotate_left
 ·(intro w' aa;(try dsimp only at aa);go_simp;(try with_reducible rfl))
 try simp only[pu]
 refine' wpAnyH_take (i:=10) (oi:=⟨some 52,_,_,_,_,_⟩) (v:=_) rfl (by kernel_rfl) (by kernel_rfl) (by kernel_rfl) (fun _ _ _ h=>h) (Or.inl ⟨by rfl,?_⟩) hHeld ?_
 rotate_left
 ·(intro w' aa;(try dsimp only at aa);go_simp;(try with_reducible rfl))
 try simp only[pu]
 refine' wpAnyH_take (i:=11) (oi:=⟨some 53,_,_,_,_,_⟩) (v:=_) rfl (by kernel_rfl) (by kernel_rfl) (by kernel_rfl) (fun _ _ _ h=>h) (Or.inl ⟨by rfl,?_⟩) hHeld ?_
 rotate_left
 ·(intro w' aa;(try dsimp only at aa);go_simp;(try with_reducible rfl))
 try simp only[pu]
 refine wpAnyH_ready (rs:=[12]) (by kernel_rfl) (by simp) ?_
 refine AllReadyH.cons (i:=12) rfl (fun K hK=> ?_) AllReadyH.nil;go_simp
 (go_at_call 51;refine(dn.o _ ZK.o).mono ?_;rintro e w7 ⟨rfl,bq⟩;have pf:=J (bx.o.keep bq);have fN:=J (aQ.o.ext bq);have iR:=J (fj.o.trans (KX.of_ext bq));clear bq)
 try go_wp2_with fail
 refine hK.out _ _ ?_ (fun hHeld=> ?_)
 ·exact⟨pf.o.blk.fourW.1,pf.o.blk.fourW.2.1,pf.o.blk.fourW.2.2.1,fN.o.five.2.2.2.2⟩
 clear hK K;try simp only[pu]
 refine wpAnyH_ready (rs:=[13]) (by kernel_rfl) (by simp) ?_
 refine AllReadyH.cons (i:=13) rfl (fun K hK=> ?_) AllReadyH.nil;go_simp
 (go_at_call 105;refine(dC.o _ _ _ pf.o).mono ?_;rintro e w8 ⟨Xv,f8,rfl,fR,bJ⟩;have fa:=J fR;have jn:=J (cF.o.blk bJ fN.o);have eX:=J (iR.o.trans bJ);clear fR bJ;obtain⟨w9,VV,VT,eA⟩:=fa.o.note lh.o lf.o;have cM:=J VT;have eI:=J (eX.o.grown eA (Or.inr (Or.inl rfl)));have dk:Hid (Blk w9 nb 95 #[.int .i64 2,.int .i64 0,.int .i64 0,.int .i64 0,.string s]):=J ((eA.block nb jn.o.lt (fun e=>cF.o.dm (by injection e))).trans jn.o);clear VT eA)
 try go_wp2_with fail
 refine hK.out _ _ ?_ (fun hHeld=> ?_)
 ·exact⟨fa.o.blk.fourW.1,fa.o.blk.fourW.2.1,fa.o.blk.fourW.2.2.1,jn.o.five.2.2.2.2⟩
 clear hK K;try simp only[pu]
 refine wpAnyH_ready (rs:=[14]) (by kernel_rfl) (by simp) ?_
 refine AllReadyH.cons (i:=14) rfl (fun K hK=> ?_) AllReadyH.nil;go_simp;try go_wp2_with fail
 refine hK.out _ _ ?_ (fun hHeld=> ?_)
 ·exact⟨cM.o.blk.fourW.1,cM.o.blk.fourW.2.1,cM.o.blk.fourW.2.2.1,dk.o.five.2.2.2.2⟩
 clear hK K;try simp only[pu]
 refine wpAnyH_done (by kernel_rfl) ?_ _
 clear hHeld dW bx aQ fj dk jn fN;obtain⟨c0,c1,c2,c3,f3,bU⟩:=cM.o.blk.fourW;obtain⟨_,jJ⟩:=cM.o.map.look (k:=i) (by omega);rw[if_pos rfl]at jJ;simp only[Option.getD_some]at jJ;go_wp2_with fail;go_ret;exact⟨_,_,rfl,cM.o,eI.o⟩
theorem F7{ns:List Nd}{env:Env}{B g dm wb:Nat}{ev:Value}{w:World}{ms:List Nd}{rv:Value}{f:Int->Option Int}(h:WkR ns env B g dm wb ev w ms rv f){i:Nat}{e:Ex}(hc:AM ns env i e){z:Int}(hf:f (i:Int)=some z):
  Calls Tryz.prog 105 #[.pointer (some ⟨wb,0,none⟩),.int .i64 (i:Int)] w (NdP ns env B g dm wb ev (Ai ms e).2 (Ai ms e).1 rv w):=by
 obtain⟨hz,hm⟩:=h.done.found h.gr.ok.1 hc hf;have hi:=hc.lt;have h1:=h.pre.length_le;have h2:=h.gr.few;rw[hm];exact NK h i _ (by omega) (by rw[hf,hz])
theorem PJ{ns:List Nd}{env:Env}{B g dm wb:Nat}{ev:Value}(ao:env.length<=64){i:Nat}{e:Ex}(hc:AM ns env i e):∀(w:World) (ms:List Nd) (rv:Value) (f:Int->Option Int),WkR ns env B g dm wb ev w ms rv f->(Ai ms e).2.length<=4096->
  Calls Tryz.prog 105 #[.pointer (some ⟨wb,0,none⟩),.int .i64 (i:Int)] w (NdP ns env B g dm wb ev (Ai ms e).2 (Ai ms e).1 rv w):=by
 induction hc with
 | @leaf i k t h1 h2 h3=>
   intro w ms rv f h hr;have hc:AM ns env i (.leaf k t):= .leaf h1 h2 h3;cases hf:f (i:Int) with
   |some z=>exact F7 h hc hf
   |none=>exact NJ h i k t h1 h2 h3 hf _ _ (fun W rv hg=>Ji B g W ms rv hg _ (.inl ⟨k,t,rfl,h3⟩) hr) (BA ms _) _ hc (CE (.leaf k t) ms)
 | @name i n t e h1 h2 h3 ih=>
   intro w ms rv f h hr;have hc:AM ns env i e:= .name h1 h2 h3;cases hf:f (i:Int) with
   |some z=>exact F7 h hc hf
   |none=>exact NI h i n t ao h1 h2 hf _ _ (fun W rv f hw=>ih W ms rv f hw hr) e hc (CE e ms)
 | @un i j k n x h1 h2 h3 ih=>
   intro w ms rv f h hr;have hc:AM ns env i (.un k n x):= .un h1 h2 h3;cases hf:f (i:Int) with
   |some z=>exact F7 h hc hf
   |none=>
    have hl:=(BA (Ai ms x).2 ⟨(k:Int),((Ai ms x).1:Int),0,n,[]⟩).length_le;have pz:(AN (Ai ms x).2 ⟨(k:Int),((Ai ms x).1:Int),0,n,[]⟩).2.length<=4096:=hr;exact Re h i j k n h1 h2 hf (Ai ms x).2 _ (Ai ms x).1 _ (fun W rv f hw=>ih W ms rv f hw (by omega)) (fun W rv hg=>Ji B g W (Ai ms x).2 rv hg _ (.inr (.inl ⟨k,n,_,rfl,h2,Ej x ms⟩)) pz) (BA _ _) _ hc (CE (.un k n x) ms)
 | @bin i j q k x y h1 h2 h3 h4 ihx ihy=>
   intro w ms rv f h hr;have hc:AM ns env i (.bin k x y):= .bin h1 h2 h3 h4;cases hf:f (i:Int) with
   |some z=>exact F7 h hc hf
   |none=>
    have dp:=(EB y (Ai ms x).2).length_le;have hl:=(BA (Ai (Ai ms x).2 y).2 ⟨(k:Int),((Ai ms x).1:Int),((Ai (Ai ms x).2 y).1:Int),0,[]⟩).length_le;have pz:(AN (Ai (Ai ms x).2 y).2 ⟨(k:Int),((Ai ms x).1:Int),((Ai (Ai ms x).2 y).1:Int),0,[]⟩).2.length<=4096:=hr;have hlt:=Ej x ms;exact PI h i j q k h1 h2 hf (Ai ms x).2 (Ai (Ai ms x).2 y).2 _ (Ai ms x).1 (Ai (Ai ms x).2 y).1 _ (fun W rv f hw=>ihx W ms rv f hw (by omega)) (fun W rv f hw=>ihy W (Ai ms x).2 rv f hw (by omega)) (fun W rv hg=>Ji B g W (Ai (Ai ms x).2 y).2 rv hg _ (.inr (.inr ⟨k,_,_,rfl,h2,by omega,Ej y _⟩)) pz) (BA _ _) _ hc (CE (.bin k x y) ms)
theorem KX.toKG{X:Nat->Prop}{n1 n2:Value}{w w1 w2:World}{g b:Nat}(hx:Ext w w1)(h:KX X n1 n2 w1 w2)(hX:∀k,X k->k=g\/k=b\/w.heap.size<=k):KG g b n1 n2 w w2:=
 ⟨h.os.trans hx.os,h.tape.trans hx.tape,h.output.trans hx.output,Nat.le_trans hx.size h.size,fun k hk h1 h2 h3=>(h.block k (Nat.lt_of_lt_of_le hk hx.size) (fun hxk=>by
  rcases hX k hxk with h4|h4|h4
  ·exact h1 h4
  ·exact h2 h4
  ·omega) h3).trans (hx.block k hk),fun j hj=>by
  rcases h.move j hj with h4|h4
  ·exact .inl h4
  ·exact .inr (Nat.le_trans hx.size h4)⟩
def EC(B g:Nat)(ms:List Nd)(env:Env)(id:Int)(rv:Value)(w:World)(r:Ending)(w':World):Prop:=
 ∃z c ms' rv',r= .returned (.tuple #[.int .i64 z,.int .i64 c])/\ED ms env id z c ms'/\GrR B g w' ms' rv'/\KG g g rv rv' w w'
theorem GH(B g:Nat)(w:World)(ms:List Nd)(rv:Value)(h:GrR B g w ms rv)(ev:Value)(env:Env)(he:AG 0 w ev env)(hg:AO ms env)(id:Int)(vC:∀e,AM ms env id.toNat e->(Ai ms e).2.length<=4096):
  Calls Tryz.prog 38 #[.pointer (some ⟨g,0,none⟩),ev,.int .i64 id] w (EC B g ms env id rv w):=by
 have HG:=J h;have HE:=J he;have cP:=J hg;have yi:=J vC;have cW:=J (Jk B g w ms rv h ev env he.read hg.ok id);unfold DQ at cW;unfold EC;obtain⟨AE,cE,nZ⟩:=he.shape;obtain⟨AR,cR,e7⟩:=h.row.shape;obtain⟨nE,vc⟩:∃nE,nE=env.length:=⟨_,rfl⟩;obtain⟨nR,Wa⟩:∃nR,nR=ms.length:=⟨_,rfl⟩;rw[<-vc]at nZ;rw[<-Wa]at e7;subst nZ;subst e7;clear h he hg vC vc Wa;go_enter Tryz.func38,Tryz.ntmps38;go_wp2_with fail;refine cW.o.mono ?_
 rintro e w1 ⟨v1,l,c,rfl,ha1,rQ,_,_,am⟩;have ah:=J am;obtain⟨m1,A1,c1,rfl⟩:=ha1.shape;clear ha1 am cW;rcases rQ with ⟨h1,_,rfl⟩|⟨h1,h2,h3,_,rfl⟩|⟨h1,h2,h3,rfl,_⟩
 ·have HR:Hid (ED ms env id 0 1 ms):=J (.inl ⟨h1,rfl,rfl,rfl⟩);clear h1;go_wp2_with fail;go_ret2;exact⟨0,1,ms,_,rfl,HR.o,HG.o.keep ah.o,KG.of_ext ah.o⟩
 ·have HR:Hid (ED ms env id 0 8 ms):=J (.inr (.inl ⟨h1,h2,h3,rfl,rfl,rfl⟩));clear h1 h2 h3;go_wp2_with fail;go_ret2;exact⟨0,8,ms,_,rfl,HR.o,HG.o.keep ah.o,KG.of_ext ah.o⟩
 ·obtain⟨i,rfl⟩:∃i:Nat,id=(i:Int):=⟨id.toNat,by omega⟩;obtain⟨e,hce⟩:=cP.o.closed HG.o.ok i (by omega) (by rw[Int.toNat_natCast]at h3;exact h3);have hft:=yi.o e (by rw[Int.toNat_natCast];exact hce);have HR:Hid (ED ms env (i:Int) ((Ai ms e).1:Int) 0 (Ai ms e).2):=J (.inr (.inr ⟨h1,h2,h3,e,by rw[Int.toNat_natCast];exact hce,.inl ⟨hft,rfl,rfl,rfl⟩⟩));have aQ:=J (fun W rv f dm wb (h:WkR ms env B g dm wb (.slice AE nE cE) W ms rv f)=>PJ (B:=B) (g:=g) (dm:=dm) (wb:=wb) cP.o.ok.few hce W ms rv f h hft);have hmm:=fun W=> @run_makeMap Tryz.prog 157 W
  have k0:=(HG.o.keep ah.o).blk.oneG;have cS:=J (Fv.made w1 ms.length);have aq:=J (ah.o.alloc (.map #[] 0));obtain⟨dm,ky⟩:∃dm,dm=w1.heap.size:=⟨_,rfl⟩;obtain⟨w2,aY⟩:∃w2,w2=w1.alloc (.map #[] 0):=⟨_,rfl⟩;rw[<-aY]at aq cS;rw[<-ky]at cS;have tt:Hid (w.heap.size<=dm):=J (by have:=ah.o.size;omega);have aD:=J (Blk.new w2 164 #[.pointer (some ⟨g,0,none⟩),.slice AE nE cE,.map (some dm),.int .i64 0]);have aj:=J ((Ext.refl w2).alloc (.cells #[.pointer (some ⟨g,0,none⟩),.slice AE nE cE,.map (some dm),.int .i64 0] 164));obtain⟨wb,hwb⟩:∃wb,wb=w2.heap.size:=⟨_,rfl⟩;obtain⟨w3,bf⟩:∃w3,w3=w2.alloc (.cells #[.pointer (some ⟨g,0,none⟩),.slice AE nE cE,.map (some dm),.int .i64 0] 164):=⟨_,rfl⟩;rw[<-bf]at aj aD;rw[<-hwb]at aD;have ZM:Hid (w.heap.size<=wb):=J (by have:=aq.o.size;omega);have dL:Hid (WkR ms env B g dm wb (.slice AE nE cE) w3 ms (.slice AR nR cR) (fun _=>none)):=J ⟨HG.o.keep (aq.o.trans aj.o),List.prefix_refl _,aD.o,HE.o.ext (aq.o.trans aj.o),cS.o.ext aj.o,Ed.none⟩;have Wr:dm+1=wb:=by rw[hwb,aY,ky];simp
  generalize (Ai ms e).1=pid at *;generalize (Ai ms e).2=ms2 at *;clear h1 h2 h3 hft hce;go_upto_region 6 with fail;rw[<-ky,<-aY,Wr,<-bf];clear ky aY hwb bf Wr hmm k0;go_wp2_with fail;refine(aQ.o w3 _ _ dm wb dL.o).mono ?_
  rintro r w4 ⟨Xy,f4,rfl,xI,d9⟩;have cp:=J xI;have ei:=J (KX.toKG (g:=g) (b:=g) (aq.o.trans aj.o) d9 (fun k hx=>by
   rcases hx with rfl|rfl|rfl
   ·exact .inl rfl
   ·exact .inr (.inr tt.o)
   ·exact .inr (.inr ZM.o)))
  obtain⟨c0,c1',c2,c3,f3,bU⟩:=xI.blk.fourW;clear xI d9 aQ dL;go_wp2_with fail;go_ret2;exact⟨pid,0,ms2,Xy,rfl,HR.o,cp.o.gr,ei.o⟩
theorem Gi{ns:List Nd}{env:Env}{B g b bm dm cb:Nat}{w:World}{ms:List Nd}{nv:Value}{f:Int->Option Int}(h:WkP ns env B g b bm dm cb w ms nv f){i:Nat}{e:Ex}(hc:AM ns env i e){z:Int}(hf:f (i:Int)=some z):
  Calls Tryz.prog 103 #[.pointer (some ⟨cb,0,none⟩),.int .i64 (i:Int)] w (ClP ns env B g b bm dm cb (Ai ms e).2 (Ai ms e).1 nv w):=by
 obtain⟨hz,hm⟩:=h.done.found h.gr.ok.1 hc hf;have hi:=hc.lt;have h1:=h.pre.length_le;have h2:=h.gr.few;rw[hm];exact OB h i _ (by omega) (by rw[hf,hz])
theorem QC{ns:List Nd}{env:Env}{B g b bm dm cb:Nat}(he:Ct ns env){i:Nat}{e:Ex}(hc:AM ns env i e):∀(w:World) (ms:List Nd) (nv:Value) (f:Int->Option Int),WkP ns env B g b bm dm cb w ms nv f->
  Calls Tryz.prog 103 #[.pointer (some ⟨cb,0,none⟩),.int .i64 (i:Int)] w (ClP ns env B g b bm dm cb (Ai ms e).2 (Ai ms e).1 nv w):=by
 induction hc with
 | @leaf i k t h1 h2 h3=>
   intro w ms nv f h;have hc:AM ns env i (.leaf k t):= .leaf h1 h2 h3;cases hf:f (i:Int) with
   |some z=>exact Gi h hc hf
   |none=>exact OA h i k t h1 h2 h3 hf _ _ (fun W nv hg hm=>JP B g b W ms nv hg _ (.inl ⟨k,t,rfl,h3⟩) hm) (BA ms _) _ hc (CE (.leaf k t) ms)
 | @name i n t e h1 h2 h3 ih=>
   intro w ms nv f h;have hc:AM ns env i e:= .name h1 h2 h3;cases hf:f (i:Int) with
   |some z=>exact Gi h hc hf
   |none=>exact Oz h i n t h1 (by rw[he.map t,h2,if_pos (by omega)]) hf _ _ (fun W nv f hw=>ih W ms nv f hw) e hc (CE e ms)
 | @un i j k n x h1 h2 h3 ih=>
   intro w ms nv f h;have hc:AM ns env i (.un k n x):= .un h1 h2 h3;cases hf:f (i:Int) with
   |some z=>exact Gi h hc hf
   |none=>exact RY h i j k n h1 h2 hf (Ai ms x).2 _ (Ai ms x).1 _ (fun W nv f hw=>ih W ms nv f hw) (fun W nv hg hm=>JP B g b W (Ai ms x).2 nv hg _ (.inr (.inl ⟨k,n,_,rfl,h2,Ej x ms⟩)) hm) (BA _ _) _ hc (CE (.un k n x) ms)
 | @bin i j q k x y h1 h2 h3 h4 ihx ihy=>
   intro w ms nv f h;have hc:AM ns env i (.bin k x y):= .bin h1 h2 h3 h4;cases hf:f (i:Int) with
   |some z=>exact Gi h hc hf
   |none=>
    have dp:=(EB y (Ai ms x).2).length_le;have hlt:=Ej x ms;exact QB h i j q k h1 h2 hf (Ai ms x).2 (Ai (Ai ms x).2 y).2 _ (Ai ms x).1 (Ai (Ai ms x).2 y).1 _ (EB y _) (fun W nv f hw=>ihx W ms nv f hw) (fun W nv f hw=>ihy W (Ai ms x).2 nv f hw) (fun W nv hg hm=>JP B g b W (Ai (Ai ms x).2 y).2 nv hg _ (.inr (.inr ⟨k,_,_,rfl,h2,by omega,Ej y _⟩)) hm) (BA _ _) _ hc (CE (.bin k x y) ms)
theorem Ma{g b:Nat}{nv:Value}{A:Option Addr}{c:Nat}{l:List Nd}(dK:l.length<=c)(i:Nat)(hi:i<=l.length):∃v1,(∀W:World,(Instr.slice 32 (.slice A l.length c) (some (.int .i64 (i:Int))) none none).run Tryz.prog W= .ok v1 W)/\∀w,Cg g b nv w (.slice A l.length c) l->Cg g b nv w v1 (l.drop i):=by
 have aB:Tryz.prog.elem 32=95:=by kernel_rfl
 obtain⟨i0,gA,_,hz1,_⟩:=info_parts Dj;refine⟨.slice (if c=i then A else A.map (·.add (i*5))) (l.length-i) (c-i),fun W=> ?_,fun w h=> ?_⟩
 ·rw[run_slice_l W 32 A l.length c (by rw[aB];exact Tryz.underlying32) .i64 (i:Int) (by omega) (by omega)];have hs:(sizeOf (Tryz.prog.elem 32)).run Tryz.prog W= .ok 5 W:=by rw[aB];simp[sizeOf,typeInfo,gA,hz1]
  rw[hs];simp only[Result.andThen,sliced,Int.toNat_natCast]
 ·obtain⟨A',c',hv,h1⟩:=h;injection hv with e1 _ e3
  subst e1 e3;have hl:(l.drop i).length=l.length-i:=List.length_drop;refine⟨_,_,by rw[hl],fun hp=> ?_⟩;rw[hl]at hp;have fz:i<l.length:=Nat.lt_of_sub_pos hp;have YX:c≠i:=Nat.ne_of_gt (Nat.lt_of_lt_of_le fz dK);obtain⟨q,o,rfl,hq,h2,h3,h4,hc⟩:=h1 (Nat.lt_of_le_of_lt (Nat.zero_le i) fz);rw[if_neg YX];refine⟨q,o+i*5,by simp[Addr.add],hq,h2,h3,h4,fun j hj=> ?_⟩;rw[hl]at hj;have h5:=hc (i+j) (Nat.add_lt_of_lt_sub' hj);rw[List.getElem_drop,show o+i*5+j*5=o+(i+j)*5 by rw[Nat.add_mul,Nat.add_assoc]];exact h5
theorem SD{B:Nat}{w:World}{A:Option Addr}{n c:Nat}{l:List Nd}(h:Ak B w (.slice A n c) l):l.length<=c:=by
 unfold Ak at h;rcases h.2 with ⟨hv,hn⟩|⟨g,cap,cur,hv,_,_,h2,_⟩
 ·omega
 ·injection hv with _ _ e3
  omega
def Ck(B g b:Nat)(ms:List Nd)(env:Env)(id:Int)(nv:Value)(w:World)(r:Ending)(w':World):Prop:=
 ∃z c ms' nv',r= .returned (.tuple #[.int .i64 z,.int .i64 c])/\ED ms env id z c ms'/\GrP B g b w' ms' nv'/\KG g b nv nv' w w'
theorem Dc(B g b:Nat)(w:World)(ms:List Nd)(nv:Value)(h:GrP B g b w ms nv)(ev:Value)(env:Env)(he:AG 0 w ev env)(hg:AO ms env)(id:Int)(hm:BC w):
  Calls Tryz.prog 37 #[.pointer (some ⟨g,0,none⟩),ev,.int .i64 id] w (Ck B g b ms env id nv w):=by
 have HG:=J h;have HE:=J he;have cP:=J hg;have HM:=J hm;have cW:=J (KU B g b w ms nv h ev env he.read hg.ok id);have ox:=J (fun W (hx:Ext w W)=>Df B g b W ms nv (h.keep hx) ev env (he.read.ext hx) (by have:=hg.ok.few;omega) (hg.ok.texts h.few));have Xh:=J (fun W (hx:Ext w W)=>Qo B g b W ms nv (h.keep hx));have aN:=J (fun W (hx:Ext w W)=>EJ W ev env (he.read.ext hx) (by have:=hg.ok.few;omega) (hg.ok.texts h.few));have dN:=J (fun W (hx:Ext w W)=>FT B g b W ms nv (h.keep hx));unfold DQ at cW;unfold Cp at ox;unfold Ck;obtain⟨AE,cE,nZ⟩:=he.shape;obtain⟨nE,vc⟩:∃nE,nE=env.length:=⟨_,rfl⟩;rw[<-vc]at nZ;subst nZ;clear h he hg hm vc;go_enter Tryz.func37,Tryz.ntmps37;go_wp2_with fail;refine cW.o.mono ?_
 rintro e w1 ⟨v1,l,c,rfl,ha1,rQ,_,_,am⟩;have ah:=J am;obtain⟨m1,A1,c1,rfl⟩:=ha1.shape;clear ha1 am cW;rcases rQ with ⟨h1,_,rfl⟩|⟨h1,h2,h3,_,rfl⟩|⟨h1,h2,h3,rfl,_⟩
 ·have HR:Hid (ED ms env id 0 1 ms):=J (.inl ⟨h1,rfl,rfl,rfl⟩);clear h1;go_wp2_with fail;go_ret2;exact⟨0,1,ms,_,rfl,HR.o,HG.o.keep ah.o,KG.of_ext ah.o⟩
 ·have HR:Hid (ED ms env id 0 8 ms):=J (.inr (.inl ⟨h1,h2,h3,rfl,rfl,rfl⟩));clear h1 h2 h3;go_wp2_with fail;go_ret2;exact⟨0,8,ms,_,rfl,HR.o,HG.o.keep ah.o,KG.of_ext ah.o⟩
 obtain⟨i,rfl⟩:∃i:Nat,id=(i:Int):=⟨id.toNat,by omega⟩;obtain⟨e,hce⟩:=cP.o.closed HG.o.ok i (by omega) (by rw[Int.toNat_natCast]at h3;exact h3);have wP:Hid ((Ai ms e).2.length<=4096->ED ms env (i:Int) ((Ai ms e).1:Int) 0 (Ai ms e).2):=J (fun hft=> .inr (.inr ⟨h1,h2,h3,e,by rw[Int.toNat_natCast];exact hce,.inl ⟨hft,rfl,rfl,rfl⟩⟩));have wQ:Hid (4096<(Ai ms e).2.length->ED ms env (i:Int) 0 7 ms):=J (fun hft=> .inr (.inr ⟨h1,h2,h3,e,by rw[Int.toNat_natCast];exact hce,.inr ⟨hft,rfl,rfl,rfl⟩⟩));have bH:=J (fun W nv f B g b bm dm cb (h:WkP ms env B g b bm dm cb W ms nv f)=>QC cP.o.ok hce W ms nv f h);have gS:=J (Aw.add e hce.good ms HG.o.ok);have eO:=J (EB e ms);generalize (Ai ms e).1=pid at *;generalize (Ai ms e).2=ms2 at *;clear h1 h2 h3 hce;go_wp2_with fail;refine(ox.o w1 ah.o).mono ?_
 rintro r w2 ⟨d,rfl,hd,au⟩;obtain rfl:d=true:=hd.2 cP.o;have aq:=J (ah.o.trans au);clear au hd ox;go_wp2_with fail;refine(Xh.o w2 aq.o).mono ?_
 rintro r w3 ⟨g2,b2,nv2,rfl,jO,ae⟩;have aj:=J (aq.o.trans ae);have dE:=J jO;have aP:Hid (w.heap.size<=w2.heap.size):=J aq.o.size;clear ae jO Xh;go_wp2_with fail;refine(aN.o w3 aj.o).mono ?_
 rintro r w4 ⟨bm,rfl,fh,ea,aR⟩;have aE:=J (aj.o.trans aR);have iS:=J (dE.o.keep aR);have hmm:=fun W=> @run_makeMap Tryz.prog 157 W
 have qd:=J (Fv.made w4 ms.length);have bg:=J ((Ext.refl w4).alloc (.map #[] 0));obtain⟨dm,ky⟩:∃dm,dm=w4.heap.size:=⟨_,rfl⟩;obtain⟨w5,dQ⟩:∃w5,w5=w4.alloc (.map #[] 0):=⟨_,rfl⟩;rw[<-dQ]at bg qd;rw[<-ky]at qd;have bv:=J (Blk.new w5 159 #[.pointer (some ⟨g2,0,none⟩),.map (some bm),.map (some dm)]);have aO:=J ((Ext.refl w5).alloc (.cells #[.pointer (some ⟨g2,0,none⟩),.map (some bm),.map (some dm)] 159));obtain⟨cb,og⟩:∃cb,cb=w5.heap.size:=⟨_,rfl⟩;obtain⟨w6,cH⟩:∃w6,w6=w5.alloc (.cells #[.pointer (some ⟨g2,0,none⟩),.map (some bm),.map (some dm)] 159):=⟨_,rfl⟩;rw[<-cH]at aO bv;rw[<-og]at bv;have Ws:dm+1=cb:=by rw[og,dQ,ky];simp
 have p6:=J (bg.o.trans aO.o);have ay:=J (aE.o.trans p6.o);have cC:Hid (WkP ms env w2.heap.size g2 b2 bm dm cb w6 ms nv2 (fun _=>none)):=J (by
  have h1:=dE.o.map.lt;have h2:=AS.lt ea;have h3:=dE.o.lo2;have h4:=aR.size;exact⟨iS.o.keep p6.o,List.prefix_refl _,bv.o,AS.ext ea p6.o,qd.o.ext aO.o,Ed.none,HM.o.ext ay.o,by omega,by omega,by omega,by omega⟩)
 have tt:Hid (w2.heap.size<=dm):=J cC.o.lod;clear fh ea aR aN dE iS;go_upto_region 8 with fail;rw[<-ky,<-dQ,Ws,<-cH];clear ky dQ og cH Ws hmm;go_wp2_with fail;refine(bH.o w6 _ _ _ g2 b2 bm dm cb cC.o).mono ?_
 rintro r w8 ⟨nk,z8,c8,rfl,bJ,fR⟩;have bV:Hid (Ext w w8):=J (ay.o.more (bJ.below ay.o.size (fun k hx=>by
  have h1:=cC.o.gr.lo;have h2:=cC.o.gr.lo2;have h3:=aP.o;have h4:=tt.o;rcases hx with rfl|rfl|rfl<;>omega) (fun k hk=>by
  have h1:=AC cC.o.gr.row k hk;have h3:=aP.o;omega)))
 clear bJ bH cC;rcases fR with ⟨dI,rfl,rfl,f8,fR⟩|⟨dI,rfl,rfl⟩
 rotate_left
 ·have HR:=J (wQ.o dI);clear dI;go_wp2_with fail;go_ret2;exact⟨0,7,ms,_,rfl,HR.o,HG.o.keep bV.o,KG.of_ext bV.o⟩
 have HR:=J (wP.o dI);have lS:=J dI;have fa:=J fR.gr;have Xd:=J (HG.o.keep bV.o);have dM:=J (fun W (hx:Ext w8 W)=>JR w2.heap.size g2 b2 W ms2 nk (fa.o.keep hx));clear fR dI wP wQ;obtain⟨n,hn⟩:∃n,n=(ms2.drop ms.length).length:=⟨_,rfl⟩;have HN:=J hn;clear hn;go_upto_region 11 with fail;have fA:g<w8.drew.heap.size:=Xd.o.lt;refine wp_region_held_drew (S:=fun w'=>Ext w8 w') (by kernel_rfl) (by exact(Ext.refl w8).drew) (fun hHeld=> ?_);refine' wpAnyH_take (i:=0) (oi:=⟨some 47,_,_,_,_,_⟩) (v:=_) rfl (by kernel_rfl) (by kernel_rfl) (by kernel_rfl) (fun _ _ _ h=>h) (Or.inl ⟨by rfl,?_⟩) hHeld ?_
 rotate_left
 ·(intro w' aa;(try dsimp only at aa);go_simp;(try with_reducible rfl))
 try simp only[pu]
 refine' wpAnyH_take (i:=2) (oi:=⟨some 49,_,_,_,_,_⟩) (v:=_) rfl (by kernel_rfl) (by kernel_rfl) (by kernel_rfl) (fun _ _ _ h=>h) (Or.inl ⟨by rfl,?_⟩) hHeld ?_
 rotate_left
 ·(intro w' aa;(try dsimp only at aa);go_simp;(try with_reducible rfl))
 try simp only[pu]
 refine' wpAnyH_take (i:=3) (oi:=⟨some 50,_,_,_,_,_⟩) (v:=_) rfl (by kernel_rfl) (by kernel_rfl) (by kernel_rfl) (fun _ _ _ h=>h) (Or.inl ⟨by rfl,?_⟩) hHeld ?_
 rotate_left
 ·(intro w' aa;(try dsimp only at aa);go_simp;(try with_reducible rfl))
 try simp only[pu]
 refine' wpAnyH_take (i:=4) (oi:=⟨some 51,_,_,_,_,_⟩) (v:=_) rfl (by kernel_rfl) (by kernel_rfl) (by kernel_rfl) (fun _ _ _ h=>h) (Or.inl ⟨by rfl,?_⟩) hHeld ?_
 rotate_left
 ·(intro w' aa;(try dsimp only at aa);go_simp;(try with_reducible rfl))
 try simp only[pu]
 refine' wpAnyH_take (i:=8) (oi:=⟨some 55,_,_,_,_,_⟩) (v:=_) rfl (by kernel_rfl) (by kernel_rfl) (by kernel_rfl) (fun _ _ _ h=>h) (Or.inl ⟨by rfl,?_⟩) hHeld ?_
 rotate_left
 ·(intro w' aa;(try dsimp only at aa);go_simp;(try with_reducible rfl))
 try simp only[pu]
 refine wpAnyH_ready (rs:=[1]) (by kernel_rfl) (by simp) ?_
 refine AllReadyH.cons (i:=1) rfl (fun K hK=> ?_) AllReadyH.nil;go_simp
 (go_at_call 40;refine(dM.o _ hHeld).mono ?_;rintro r w9 ⟨v9,rfl,nM,iV⟩;have dz:=J (bV.o.trans (hHeld.trans iV));have HF9:=J (Cg.new (nM.mono (Nat.le_trans bV.o.size hHeld.size)) HG.o);obtain⟨A9,c9,rfl⟩:=nM.shape;have dK:=SD nM;obtain⟨v10,oV,eL⟩:=Ma (g:=g) (b:=b) (nv:=nv) (A:=A9) dK ms.length eO.o.length_le;have qi:=J (eL _ HF9.o);obtain⟨A10,ZC,uy,_⟩:=qi.o;rw[<-HN.o]at uy;subst uy;clear nM dK eL)
 try go_wp2_with fail
 refine hK.out _ _ ?_ (fun hHeld=> ?_)
 ·exact hHeld.trans iV
 clear hK K;try simp only[pu]
 refine wpAnyH_ready (rs:=[5]) (by kernel_rfl) (by simp) ?_
 refine AllReadyH.cons (i:=5) rfl (fun K hK=> ?_) AllReadyH.nil;go_simp
 (go_at_call 41;refine(dN.o _ dz.o).mono ?_;rintro r de ⟨rfl,rfl⟩)
 try go_wp2_with fail
 refine hK.out _ _ ?_ (fun hHeld=> ?_)
 ·exact hHeld
 clear hK K;try simp only[pu]
 refine' wpAnyH_take (i:=6) (oi:=⟨some 53,_,_,_,_,_⟩) (v:=_) rfl (by kernel_rfl) (by kernel_rfl) (by kernel_rfl) (fun _ _ _ h=>h) (Or.inl ⟨by rfl,?_⟩) hHeld ?_
 rotate_left
 ·(intro w' aa;(try dsimp only at aa);go_simp;(try with_reducible rfl))
 try simp only[pu]
 refine' wpAnyH_take (i:=7) (oi:=⟨some 54,_,_,_,_,_⟩) (v:=_) rfl (by kernel_rfl) (by kernel_rfl) (by kernel_rfl) (fun _ _ _ h=>h) (Or.inl ⟨by rfl,?_⟩) hHeld ?_
 rotate_left
 ·(intro w' aa;(try dsimp only at aa);go_simp;(try with_reducible rfl))
 try simp only[pu]
 refine wpAnyH_done (by kernel_rfl) ?_ _
 clear hHeld iV oV;have lV:=J (HG.o.keep dz.o);have xe:=J (HM.o.ext dz.o);have cA:Hid (ms2.take ms.length=ms):=J (List.prefix_iff_eq_take.1 eO.o).symm;have j9:Hid ((ms2.drop ms.length).length=ms2.length-ms.length):=J List.length_drop;have zj:=eO.o.length_le;have tO:=lS.o;obtain⟨m0,rS⟩:∃m0,m0=ms.length:=⟨_,rfl⟩;rw[<-rS]at cA j9 HN zj qi;rw[<-HN.o]at j9;clear rS HE cP dN dM fa Xd fA ah aq aj aE ay bV p6 bg aO qd bv tt aP;go_wp2_with fail;go_loopw [15,55] (fun _ s55 wr=>∃(k:Nat) (rk:Value),k<=n/\s55= .int .i64 (k:Int)/\GrP B g b wr (ms2.take (m0+k)) rk/\KG g b nv rk w wr/\Cg g b rk wr (.slice A10 n ZC) (ms2.drop m0)/\BC wr) (fun _ s55 _=>n-(intOf s55).toNat)
 case atStart=>exact⟨0,nv,Nat.zero_le _,rfl,by rw[Nat.add_zero,cA.o];exact lV.o,KG.of_ext dz.o,qi.o,xe.o⟩
 case round=>
  clear lV qi xe;obtain⟨k,rk,hk,rfl,hg,ju,eL,lz⟩:=hrel;have yg:=J hg;have qZ:=J ju;have ke:=J eL;have mE:=J lz;clear hg ju lz;by_cases hlt:k<n
  ·have hk2:m0+k<ms2.length:=by have:=j9.o;omega
   have Wj:k<(ms2.drop m0).length:=by rw[<-HN.o];exact hlt
   have hpl:=gS.o.load hk2;have av:=gS.o.2 (m0+k) _ (List.getElem?_eq_getElem hk2);have gj:(ms2.take (m0+k)).length=m0+k:=by rw[List.length_take];omega
   have az:=J (fun W nv h hm=>JQ B g b W (ms2.take (m0+k)) nv h ms2[m0+k] (by rw[gj];exact av) hm (by rw[gj];omega));unfold Hn at az;rw[hpl]at az;obtain⟨A',c',hv,eL⟩:=eL;injection hv with e1 e2 e3
   subst e1 e3;clear e2;obtain⟨q,oq,rfl,hq,_,_,_,hc⟩:=eL (by omega);have dg:=hc k Wj;rw[List.getElem_drop]at dg;obtain⟨p0,p1,p2,p3,p4⟩:=dg;have fy:(0:Int)<=(k:Int):=by omega
   have bB:(k:Int)<(n:Int):=by omega
   have iW:IntKind.i64.wrap ((k:Int)+1)=(k:Int)+1:=IntWalk.i64_in _ (by omega);generalize ms2[m0+k]=x at *;clear hc av hpl Wj gj hk2 eL;obtain⟨y0,y1,y2,y3,y4⟩:=x;simp only[ndV]at az;simp only at p0 p1 p2 p3 p4;obtain⟨s,hs⟩:∃s:ByteArray,str y4= .string s:=⟨_,rfl⟩;rw[hs]at p4 az;clear hs;have aQ:=J (Blk.new wr 95 #[.int .i64 y0,.int .i64 y1,.int .i64 y2,.int .i64 y3,.string s]);have ay:=J ((Ext.refl wr).alloc (.cells #[.int .i64 y0,.int .i64 y1,.int .i64 y2,.int .i64 y3,.string s] 95));obtain⟨w7,cU⟩:∃w7,w7=wr.alloc (.cells #[.int .i64 y0,.int .i64 y1,.int .i64 y2,.int .i64 y3,.string s] 95):=⟨_,rfl⟩;rw[<-cU]at aQ ay;have q0:=aQ.o.five;go_upto_region 14 with fail;rw[<-cU];clear cU p0 p1 p2 p3 p4 hq;go_wp2_with fail;refine(az.o w7 rk (yg.o.keep ay.o) (mE.o.ext ay.o)).mono ?_
   rintro r wz ⟨Xz,rfl,jK,fA⟩;have qh:=J fA;have qg:=J (qZ.o.trans ((KG.of_ext ay.o).trans jK));have HFZ:=J ((ke.o.keep (KG.of_ext ay.o)).keep jK);have mD:=J ((mE.o.ext ay.o).below (jK.below (yg.o.keep ay.o)) yg.o.low);clear jK fA az q0;go_wp2_with fail;go_roundw
   case rel=>exact⟨k+1,Xz,by omega,by go_num,qh.o,qg.o,HFZ.o,mD.o⟩
   case measure=>simp[intOf]<;>omega
  ·obtain rfl:k=n:=by omega
   have Xe:Hid (GrP B g b wr ms2 rk):=J (by
    have h:=yg.o;rw[List.take_of_length_le (by have:=j9.o;omega)]at h;exact h)
   clear eL;go_wp2_with fail;go_ret2;exact⟨_,0,ms2,rk,rfl,HR.o,Xe.o,qZ.o⟩
end Big
end Go.Proofs.YtkoaogkknnelaaaGreatDoor
