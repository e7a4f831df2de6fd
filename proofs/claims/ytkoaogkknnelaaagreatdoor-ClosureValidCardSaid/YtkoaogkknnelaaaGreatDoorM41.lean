import Derived.Test.YtkoaogkknnelaaaGreatDoorM40
import Derived.Deep.Upon
set_option linter.unusedVariables false
set_option linter.unusedSimpArgs false
set_option maxHeartbeats 16000000
set_option maxRecDepth 100000
namespace Go.Proofs.YtkoaogkknnelaaaGreatDoor
namespace Big
open Lib renaming hid → J
theorem AM.back{ns ms:List Nd}{env:Env}(hs:Aw ns)(av:Ct ns env)(hp:ns <+: ms){i:Nat}{e:Ex}(h:AM ms env i e):i<ns.length->AM ns env i e:=by
 have hg:∀{i:Nat} {x:Nd},i<ns.length->ms[i]? =some x->ns[i]? =some x:=fun {i x} hi hx=>by
  rw[<-hx,List.getElem?_eq_getElem hi,AJ hp (List.getElem?_eq_getElem hi)]
 induction h with
 |leaf h1 h2 h3=>exact fun hi=> .leaf (hg hi h1) h2 h3
 | @name i n t e h1 h2 _ ih=>exact fun hi=> .name (hg hi h1) h2 (ih (by
   have:=(av.find (t:=t) (by omega)).2;omega))
 | @un i j k n x h1 h2 _ ih=>
   intro hi;refine .un (hg hi h1) h2 (ih ?_);rcases hs.2 i _ (hg hi h1) with ⟨k',t',he,hl⟩|⟨k',n',j',he,hu,hj⟩|⟨k',j',q',he,hk,hj,hq⟩
   ·injection he with e1
    have:=hl.few;have:=h2.1;omega
   ·injection he with _ e2
    omega
   ·injection he with e1
    have:=h2.1;omega
 | @bin i j q k x y h1 h2 _ _ ih1 ih2=>
   intro hi;have tP:j<i/\q<i:=by
    rcases hs.2 i _ (hg hi h1) with ⟨k',t',he,hl⟩|⟨k',n',j',he,hu,hj⟩|⟨k',j',q',he,hk,hj,hq⟩
    ·injection he with e1
     have:=hl.few;omega
    ·injection he with e1
     have:=hu.1;omega
    ·injection he with _ e2 e3
     omega
   exact .bin (hg hi h1) h2 (ih1 (by omega)) (ih2 (by omega))
section
variable {ns ms:List Nd} {env:Env}
theorem Cl.fit(hs:Aw ns)(tK:Aw ms)(he:Ct ns env)(h:Cl ns env ms)(hb:2*ns.length<=4096){i:Nat}{e:Ex}(hc:AM ms env i e):(Ai ms e).2.length<=4096:=by
 have sf:∃i,AM ns env i e:=by
  rcases Nat.lt_or_ge i ns.length with hi|hi
  ·exact⟨i,hc.back hs he h.1 hi⟩
  ·obtain⟨i',e',h6,h7⟩:=h.2 i hi hc.lt;have h8:=AM.rep (env:=env) h6.good h7 h6.free;obtain rfl:=hc.uniq h8;exact⟨i',h6⟩
 obtain⟨i',hi⟩:=sf;have ha:=Cl.add hi h;have ao:=ha.len (tK.add e hc.good).1;omega
theorem ED.code{ms':List Nd}{id z c:Int}(h:ED ms env id z c ms'):c=0\/c=1\/c=7\/c=8:=by
 rcases h with ⟨_,_,rfl,_⟩|⟨_,_,_,_,rfl,_⟩|⟨_,_,_,e,_,⟨_,_,rfl,_⟩|⟨_,_,rfl,_⟩⟩<;>omega
theorem ED.good{ms':List Nd}{id z:Int}(h:ED ms env id z 0 ms'):∃(j:Nat) (e:Ex),z=(j:Int)/\AM ms env id.toNat e/\Rep ms' j e:=by
 rcases h with ⟨_,_,h0,_⟩|⟨_,_,_,_,h0,_⟩|⟨_,_,_,e,hc,⟨_,rfl,_,rfl⟩|⟨_,_,h0,_⟩⟩
 ·cases h0
 ·cases h0
 ·exact⟨_,e,rfl,hc,CE e ms⟩
 ·cases h0
theorem Rv{j:Nat}{e:Ex}{i:Nat}{ls:List Tx}(hc:AM ns env i e)(hr:Rep ms j e)(h:AQ ms (j:Int) ls):ls=[]:=by
 unfold AQ at h;split at h
 ·cases ls with
  |nil=>rfl
  |cons t l=>exact absurd ((h.2 t).1 (by simp)) (hc.nonames hr t)
 ·exact h
end
open Go.RowKit
section
open Go
variable {P:Program} {ops:Array Oper} {Q:Exit->Act->World->Prop} {md:Region.Mode} {S:World->Prop}
theorem tk (i d:Nat) {p t s af gd} {v:Value} {fuel:Nat} {listed:Array Bool} {a:Act} {w:World} (hi:ops[i]? =some ⟨some d,p,t,s,af,gd⟩)
  (hc:(Region.noSelect ops && Region.free md ops listed i && (Region.ready md ops listed).contains i)=true)
  (hQ:∀c a w,Q (.panic c) (a.put (some d) v) w->Q (.panic c) a w) (hw:Region.wanted ⟨some d,p,t,s,af,gd⟩ (yielded ops a.tmps)=true) (hS:S w)
  (hy:∀w',S w'->(execOp a.eval ⟨some d,p,t,s,af,gd⟩).run P w'= .ok (.value v) w')
  (h:wpAnyH P md ops Q S fuel (listed.setIfInBounds i true) (a.put (some d) v) w):wpAnyH P md ops Q S (fuel+1) listed a w:=by
 simp only[Bool.and_eq_true]at hc;exact wpAnyH_take hi hc.1.1 hc.1.2 hc.2 hQ (Or.inl ⟨hw,hy⟩) hS h
end
theorem Hh(w:World)(v u:Value)(l m:List Int)(id:Int)(h:De w v l)(h':De w u m)(hm:BC w):
  Calls Tryz.prog 7 #[v,u,.int .i64 id] w fun e w'=>e= .returned (.bool true)/\Ext w w':=by
 have gK:=J (DZ w hm);have HM:=J hm;have HL:=J h;have cj:=J h';have aW:=J (fun W hx=>Di W v l (HL.o.ext hx));have ch:=J (fun W hx=>Di W u m (cj.o.ext hx));obtain⟨A0,c0,rfl,_⟩:=h.open;obtain⟨A9,c9,rfl,_⟩:=h'.open;clear h h' hm;by_cases hlt:120<l.length
 ·have hd:decide (l.length<=120)=false:=decide_eq_false (by omega);rw[hd]at aW;clear HL cj hlt hd;go_enter Tryz.func7,Tryz.ntmps7;go_wp2_with fail;refine gK.o.mono ?_
  rintro e w1 ⟨rfl,am⟩;have ah:=J am;clear am;go_wp2_with fail;refine(aW.o _ ah.o).mono ?_
  rintro e w2 ⟨rfl,rfl⟩;go_wp2_with fail;go_ret;exact⟨rfl,ah.o⟩
 have hd:decide (l.length<=120)=true:=decide_eq_true (by omega);rw[hd]at aW;have fG:l.length<=120:=by omega
 clear hlt hd;by_cases hlt2:120<m.length
 ·have hd:decide (m.length<=120)=false:=decide_eq_false (by omega);rw[hd]at ch;clear HL cj hlt2 hd;go_enter Tryz.func7,Tryz.ntmps7;go_wp2_with fail;refine gK.o.mono ?_
  rintro e w1 ⟨rfl,am⟩;have ah:=J am;clear am;go_wp2_with fail;refine(aW.o _ ah.o).mono ?_
  rintro e w2 ⟨rfl,rfl⟩;go_wp2_with fail;refine(ch.o _ ah.o).mono ?_
  rintro e w2 ⟨rfl,rfl⟩;go_wp2_with fail;go_ret;exact⟨rfl,ah.o⟩
 have hd:decide (m.length<=120)=true:=decide_eq_true (by omega);rw[hd]at ch;have jd:m.length<=120:=by omega
 clear hlt2 hd;go_enter Tryz.func7,Tryz.ntmps7;go_wp2_with fail;refine gK.o.mono ?_
 rintro e w1 ⟨rfl,am⟩;have ah:=J am;clear am;go_wp2_with fail;refine(aW.o _ ah.o).mono ?_
 rintro e w2 ⟨rfl,rfl⟩;go_wp2_with fail;refine(ch.o _ ah.o).mono ?_
 rintro e w2 ⟨rfl,rfl⟩;have bx:=J (FF w1 _ _ l m (HL.o.ext ah.o) (cj.o.ext ah.o) (by omega) (by omega) (HM.o.ext ah.o));unfold Snd at bx;clear aW ch HL cj gK fG jd;go_wp2_with fail;refine bx.o.mono ?_
 rintro e w2 ⟨g,b,gr,ns,nv,rv,ev,env,d,rfl,hs,fx,mm,cd,hd⟩;clear bx;cases d
 ·have aq:=J (ah.o.trans hs.ex);clear hs fx mm cd hd;go_wp2_with fail;go_ret;exact⟨rfl,aq.o⟩
 have cP:=J (hd.1 rfl);have HS:=J hs;have eD:=J cd;have kf:=J mm;clear hd hs mm cd;have eH:Hid (2*ns.length<=4096):=J (by omega);have iF:Hid (Aw ns):=J HS.o.two.p.ok;have jw:=J (fun W v u (l:List Nd) (h1:RNd W v l) (h2:RNd W u l) (hl:l.length<=1000000)=>(NF W v u l h1 h2 hl).mono (fun e w' ⟨p,q⟩=>(⟨p,q.ext⟩:e=Ending.returned (.bool true)/\Ext W w')));clear fx;go_wp2_with fail;go_loopw [11] (fun s11 wr=>∃(i:Int) (ms:List Nd) (nv rv:Value),-1<=i/\i<=40/\s11= .int .i64 i/\F2 w1 g b gr ev env wr ms ms nv rv/\Cl ns env ms) (fun s11 _=>(40-intOf s11).toNat)
 case atStart=>exact⟨-1,ns,nv,rv,by decide,by decide,rfl,HS.o,Cl.start⟩
 case round=>
  obtain⟨i,ms,nv,rv,gA,zD,rfl,hs,qK⟩:=hrel;have gR:=J hs;have mL:=J qK;have t8:=J (cP.o.pre iF.o qK.1);obtain⟨AR,cR,e7⟩:=hs.two.r.row.shape;subst e7;obtain⟨k0,f0,fA⟩:=hs.two.r.blk.oneG;obtain⟨n,hn⟩:∃n,ms.length=n:=⟨_,rfl⟩;rw[hn]at k0;have HN:=J hn;have tN:n<=4096:=by rw[<-hn];exact hs.two.p.few
  clear hs qK hn HS;by_cases hc1:i<=(n:Int)
  ·have cx:decide (i<=(n:Int))=true:=decide_eq_true hc1;by_cases hc2:i<40
   ·have ba:decide (i<40)=true:=decide_eq_true hc2;have hw:IntKind.i64.wrap (i+1)=i+1:=IntWalk.i64_in _ (by omega);have bH:=J (Dc w1.heap.size g b wr ms nv gR.o.two.p ev env (gR.o.ow.mono (Nat.zero_le _)) t8.o i gR.o.mx);unfold Ck at bH;go_wp2_with fail;refine bH.o.mono ?_
    rintro e w5 ⟨z,c,gf,aZ,rfl,aB,fT,eK⟩;have re:=J aB;have bP:=J (gR.o.prog eK fT);clear aB fT eK bH k0 f0 fA;have kY:=J (GH w1.heap.size gr w5 ms _ bP.o.two.r ev env (bP.o.ow.mono (Nat.zero_le _)) t8.o i (fun e he=>mL.o.fit iF.o gR.o.two.p.ok cP.o.ok eH.o he));unfold EC at kY;go_wp2_with fail;refine kY.o.mono ?_
    rintro e w6 ⟨z',c',ms2,rv2,rfl,aB,iL,bK⟩;obtain⟨rfl,rfl,rfl⟩:=re.o.uniq aB;have cC:=J (bP.o.refer bK iL);obtain⟨vV,_,_,sg⟩:=mL.o.clo iF.o gR.o.two.p.ok cP.o eH.o re.o;have tE:=J vV;have dg:=re.o.code;clear aB iL bK kY bP vV;obtain⟨AR2,cR2,y7⟩:=cC.o.two.r.row.shape;subst y7;obtain⟨n1,dT⟩:∃n1,gf.length=n1:=⟨_,rfl⟩;have gH:=J dT;have tf:=J (fun W (hx:Ext w6 W)=>(cC.o.keep hx).two.r.blk.oneG);have aN:=J (fun W (hx:Ext w6 W)=>JR w1.heap.size g b W gf aZ (cC.o.keep hx).two.p);have yd:Hid (gf.length<=1000000):=J (by have:=cC.o.two.p.few;omega);have eV:=J (fun W (hx:Ext w6 W)=>(cC.o.keep hx).two.r.row.read);rw[dT]at tf eV;clear dT;go_upto_region 15 with fail;refine wp_region_held_drew (S:=fun w'=>Ext w6 w') (by kernel_rfl) (by exact(Ext.refl w6).drew) (fun hHeld=> ?_);refine' tk 0 74 rfl (by kernel_rfl) (fun _ _ _ h=>h) (by rfl) hHeld ?_ ?_
    rotate_left
    ·(intro _ _;go_simp;(try with_reducible rfl))
    try simp only[pu]
    refine' tk 1 75 rfl (by kernel_rfl) (fun _ _ _ h=>h) (by rfl) hHeld ?_ ?_
    rotate_left
    ·(intro _ _;go_simp;(try with_reducible rfl))
    try simp only[pu]
    refine' tk 2 76 rfl (by kernel_rfl) (fun _ _ _ h=>h) (by rfl) hHeld ?_ ?_
    rotate_left
    ·(intro _ _;go_simp;(try with_reducible rfl))
    try simp only[pu]
    refine' tk 3 77 rfl (by kernel_rfl) (fun _ _ _ h=>h) (by rfl) hHeld ?_ ?_
    rotate_left
    ·(intro _ _;go_simp;(try with_reducible rfl))
    try simp only[pu]
    refine' tk 4 78 rfl (by kernel_rfl) (fun _ _ _ h=>h) (by rfl) hHeld ?_ ?_
    rotate_left
    ·(intro _ _;go_simp;(try with_reducible rfl))
    try simp only[pu]
    refine' tk 5 79 rfl (by kernel_rfl) (fun _ _ _ h=>h) (by rfl) hHeld ?_ ?_
    rotate_left
    ·(intro _ _;go_simp;(try with_reducible rfl))
    try simp only[pu]
    refine' tk 6 80 rfl (by kernel_rfl) (fun _ _ _ h=>h) (by rfl) hHeld ?_ ?_
    rotate_left
    ·(intro _ _;go_simp;(try with_reducible rfl))
    try simp only[pu]
    refine' tk 7 81 rfl (by kernel_rfl) (fun _ _ _ h=>h) (by rfl) hHeld ?_ ?_
    rotate_left
    ·(intro _ _;go_simp;(try with_reducible rfl))
    try simp only[pu]
    refine' tk 8 82 rfl (by kernel_rfl) (fun _ _ _ h=>h) (by rfl) hHeld ?_ ?_
    rotate_left
    ·(intro _ _;go_simp;(try with_reducible rfl))
    try simp only[pu]
    refine' tk 9 83 rfl (by kernel_rfl) (fun _ _ _ h=>h) (by rfl) hHeld ?_ ?_
    rotate_left
    ·(intro _ _;go_simp;(try with_reducible rfl))
    try simp only[pu]
    refine' tk 11 85 rfl (by kernel_rfl) (fun _ _ _ h=>h) (by rfl) hHeld ?_ ?_
    rotate_left
    ·(intro _ _;go_simp;(try with_reducible rfl))
    try simp only[pu]
    refine' tk 12 86 rfl (by kernel_rfl) (fun _ _ _ h=>h) (by rfl) hHeld ?_ ?_
    rotate_left
    ·(intro _ _;go_simp;(try with_reducible rfl))
    try simp only[pu]
    refine' tk 13 87 rfl (by kernel_rfl) (fun _ _ _ h=>h) (by rfl) hHeld ?_ ?_
    rotate_left
    ·(intro _ _;go_simp;(try with_reducible rfl))
    try simp only[pu]
    refine' tk 14 88 rfl (by kernel_rfl) (fun _ _ _ h=>h) (by rfl) hHeld ?_ ?_
    rotate_left
    ·(intro w' aa;(try dsimp only at aa);obtain⟨c0,c1,c2⟩:=tf.o _ aa;go_simp;(try with_reducible rfl))
    try simp only[pu]
    refine wpAnyH_ready (rs:=[10]) (by kernel_rfl) (by simp) ?_
    refine AllReadyH.cons (i:=10) (o:=⟨some 84,_,_,_,_,_⟩) rfl (fun K hK=> ?_) AllReadyH.nil;go_simp;go_at_call 40;refine(aN.o _ hHeld).mono ?_
    rintro e w7 ⟨v7,rfl,rP,bq⟩;have uL:=Ext.trans hHeld bq;have eP:=J rP.read;obtain⟨A7,c7,rfl⟩:=rP.shape;clear bq rP;refine hK.out _ _ ?_ (fun hHeld=> ?_)
    ·exact uL
    clear hK K;try simp only[pu]
    refine wpAnyH_ready (rs:=[15]) (by kernel_rfl) (by simp) ?_
    refine AllReadyH.cons (i:=15) (o:=⟨some 89,_,_,_,_,_⟩) rfl (fun K hK=> ?_) AllReadyH.nil;go_simp;go_at_call 39;refine(jw.o _ _ _ gf (eP.o.ext (Ext.refl _)) (eV.o _ hHeld) yd.o).mono ?_
    rintro e w8 ⟨rfl,bI⟩;have fR:=Ext.trans hHeld bI;refine hK.out _ _ ?_ (fun hHeld=> ?_)
    ·exact fR
    clear hK K;try simp only[pu]
    refine' tk 16 90 rfl (by kernel_rfl) (fun _ _ _ h=>h) (by rfl) hHeld ?_ ?_
    rotate_left
    ·(intro _ _;go_simp;(try with_reducible rfl))
    try simp only[pu]
    refine' tk 17 91 rfl (by kernel_rfl) (fun _ _ _ h=>h) (by rfl) hHeld ?_ ?_
    rotate_left
    ·(intro _ _;go_simp;(try with_reducible rfl))
    try simp only[pu]
    refine wpAnyH_done (by kernel_rfl) ?_ _
    have fa:=J (cC.o.keep fR);clear hHeld uL fR bI tf aN eV eP cC;by_cases hcz:c=0;rotate_left
    ·have pb:(c != 0)=true:=bne_iff_ne.2 hcz;go_wp2_with fail;go_roundw
     case rel=>exact⟨i+1,gf,aZ,_,by omega,by omega,by go_num,fa.o,tE.o⟩
     case measure=>simp[intOf];omega
    subst hcz;clear dg sg;obtain⟨j,ex,XB,hce,pw⟩:=re.o.good;subst XB;have Yn:n1<=4096:=by rw[<-gH.o];exact fa.o.two.p.few
    have Xl:=J (fun env'=>ED.again (env':=env') fa.o.two.p.ok.1 fa.o.two.p.few hce pw);have kG:=J (fun ls (h:AQ gf (j:Int) ls)=>Rv hce pw h);have hj:j<n1:=by rw[<-gH.o];exact pw.lt
    clear hce pw;have eW:=J (FT w1.heap.size g b w8 gf aZ fa.o.two.p);rw[gH.o]at eW;have qo:=J (Dc w1.heap.size g b w8 gf aZ fa.o.two.p (.slice none 0 0) [] (AG.nil _ _) (AO.nil _) (j:Int) fa.o.mx);unfold Ck at qo;go_wp2_with fail;refine eW.o.mono ?_
    rintro e w9 ⟨rfl,rfl⟩;clear eW;go_wp2_with fail;refine qo.o.mono ?_
    rintro e w9 ⟨z1,d1,XA,pp,rfl,aB,eA,bz⟩;obtain⟨rfl,rfl,rfl⟩:=aB.uniq (Xl.o []);have cM:=J (fa.o.prog bz eA);have Vs:=J (Dc w1.heap.size g b w9 XA pp cM.o.two.p ev env (cM.o.ow.mono (Nat.zero_le _)) (cP.o.pre iF.o tE.o.1) (j:Int) cM.o.mx);unfold Ck at Vs;clear aB eA bz qo fa;go_wp2_with fail;refine Vs.o.mono ?_
    rintro e de ⟨z1,d1,yE,mN,rfl,aB,du,cg⟩;obtain⟨rfl,rfl,rfl⟩:=aB.uniq (Xl.o env);have sN:=J (cM.o.prog cg du);have bG:=J (Dl w1.heap.size g b de yE mN sN.o.two.p (j:Int));unfold CF at bG;clear aB du cg Vs cM;go_wp2_with fail;refine bG.o.mono ?_
    rintro e Xt ⟨vn,ln,rfl,vS,eu,_,up,_⟩;obtain rfl:=kG.o ln eu;obtain⟨An,cn,rfl,_⟩:=vS.open;have wO:=J (sN.o.keep up);have eW:=J (FT w1.heap.size g b Xt yE mN wO.o.two.p);rw[gH.o]at eW;clear vS eu up bG sN;go_wp2_with fail;refine eW.o.mono ?_
    rintro e po ⟨rfl,rfl⟩;clear eW;go_wp2_with fail;go_roundw
    case rel=>exact⟨i+1,yE,mN,_,by omega,by omega,by go_num,wO.o,tE.o⟩
    case measure=>simp[intOf];omega
   ·have ba:decide (i<40)=false:=decide_eq_false hc2;have bH:=J (Dc w1.heap.size g b wr ms nv gR.o.two.p ev env (gR.o.ow.mono (Nat.zero_le _)) t8.o id gR.o.mx);unfold Ck at bH;go_wp2_with fail;refine bH.o.mono ?_
    rintro e w5 ⟨z,c,gf,aZ,rfl,aB,fT,eK⟩;have re:=J aB;have bP:=J (gR.o.prog eK fT);clear aB fT eK bH k0 f0 fA;have kY:=J (GH w1.heap.size gr w5 ms _ bP.o.two.r ev env (bP.o.ow.mono (Nat.zero_le _)) t8.o id (fun e he=>mL.o.fit iF.o gR.o.two.p.ok cP.o.ok eH.o he));unfold EC at kY;go_wp2_with fail;refine kY.o.mono ?_
    rintro e w6 ⟨z',c',ms2,rv2,rfl,aB,iL,bK⟩;obtain⟨rfl,rfl,rfl⟩:=re.o.uniq aB;have HF:=J (ah.o.trans (bP.o.refer bK iL).ex);clear aB iL bK kY bP;have hce:(c == c)=true:=beq_self_eq_true c;go_wp2_with fail;go_ret;exact⟨rfl,HF.o⟩
  ·have cx:decide (i<=(n:Int))=false:=decide_eq_false hc1;have bH:=J (Dc w1.heap.size g b wr ms nv gR.o.two.p ev env (gR.o.ow.mono (Nat.zero_le _)) t8.o id gR.o.mx);unfold Ck at bH;go_wp2_with fail;refine bH.o.mono ?_
   rintro e w5 ⟨z,c,gf,aZ,rfl,aB,fT,eK⟩;have re:=J aB;have bP:=J (gR.o.prog eK fT);clear aB fT eK bH k0 f0 fA;have kY:=J (GH w1.heap.size gr w5 ms _ bP.o.two.r ev env (bP.o.ow.mono (Nat.zero_le _)) t8.o id (fun e he=>mL.o.fit iF.o gR.o.two.p.ok cP.o.ok eH.o he));unfold EC at kY;go_wp2_with fail;refine kY.o.mono ?_
   rintro e w6 ⟨z',c',ms2,rv2,rfl,aB,iL,bK⟩;obtain⟨rfl,rfl,rfl⟩:=re.o.uniq aB;have HF:=J (ah.o.trans (bP.o.refer bK iL).ex);clear aB iL bK kY bP;have hce:(c == c)=true:=beq_self_eq_true c;go_wp2_with fail;go_ret;exact⟨rfl,HF.o⟩
theorem FB {w:World} {v src:Value} {xs ys:Env} {B C:Nat} {ops:Array Oper} {rest:List Oper} {o:Oper} {a:Act} {Q:Exit->Act->World->Prop} (eT:o.guard=none) (s x:Operand)
  (ho:o.op= .call { callee:= .builtin .append,args:= #[s,x],argTypes:= #[60,60] })
  (hs:a.eval s=v) (ag:AG B w v xs) (hx:a.eval x=src) (eo:AG C w src ys) (hn:xs.length+ys.length<=1000000) (bj:B<=w.heap.size)
  (h:∀v' w',AG B w' v' (xs++ys)->Below B w w'->wpList Tryz.prog ops Q rest (a.put o.dst v') w'):wpList Tryz.prog ops Q (o::rest) a w:=by
 have uJ:=eo;obtain⟨hl,⟨rfl,h2⟩|⟨g,cap,cur,rfl,_,hg,dK,_,cQ,ht⟩⟩:=eo
 ·have:ys=[]:=List.eq_nil_of_length_eq_zero h2;subst this;obtain⟨i0,hi,aU,hz1,a9⟩:=info_parts K0;refine wpList_plain eT fun _ hK=> ?_
  have aA:=ag;obtain⟨hl',XW⟩:=aA;obtain⟨A,c,rfl,hle⟩:∃A c,v= .slice A xs.length c/\xs.length<=c:=by
   rcases XW with ⟨rfl,h0⟩|⟨g,cap,cur,rfl,_,_,h5,_⟩
   ·exact⟨none,0,by rw[h0],by omega⟩
   ·exact⟨_,cap,rfl,h5⟩
  have aV:=run_append_nothing (P:=Tryz.prog) w 60 60 o.type 62 i0 Tryz.underlying60 hi A xs.length c hle (.slice none 0 0) (Src.ofNil w Tryz.underlying60 0);unfold Oper.wp execOp;simp only[ho,resolve,invoke,builtin,Sem.run_bind,Sem.run_pure,Result.andThen_ok,List.map_toArray,List.map_cons,List.map_nil,hs,hx,aV];exact hK _ _ (h _ _ (by rw[List.append_nil];exact ag) (Below.refl B w))
 ·refine BO eT s x ho hs ag ⟨g,0,none⟩ cap hx (fun j u hj=> ?_) hn bj (fun v' w' h1 _ h3=>h v' w' h1 h3);have hlt:j<(Dn ys).length:=by
   rcases Nat.lt_or_ge j (Dn ys).length with h|h
   ·exact h
   ·rw[List.getElem?_eq_none h]at hj;cases hj
  rw[FZ]at hlt;have:=uJ.cellAt j (by rw[Nat.mul_comm]at hlt ⊢;exact hlt);rw[Go.WideShapes.add_plain,Nat.zero_add,this,hj]
structure Li (w:World) (g:Nat) (env:Env):Prop where
 lt:g<w.heap.size
 at_:∀i (hi:i<env.length),TT w g (i*2) env[i]
 fr:∀j,w.frozen? ⟨g,j,none⟩=false
theorem AG.bds{B:Nat}{w:World}{v:Value}{env:Env}(h:AG B w v env)(hp:0<env.length):∃g c,v= .slice (some ⟨g,0,none⟩) env.length c/\B<=g/\Li w g env:=by
 have hr:=h.read;obtain⟨hl,⟨rfl,h2⟩|⟨g,cap,cur,rfl,hB,hg,dK,_,cQ,ht⟩⟩:=h
 ·omega
 ·obtain⟨A',c',he,hc⟩:=hr;injection he with e1
  obtain⟨g',o',iM,hlt,dg⟩:=hc hp;rw[<-e1]at iM;injection iM with iM
  injection iM with e3 e4
  subst e3;subst e4;refine⟨g,cap,rfl,hB,hlt,fun i hi=> ?_,fun j=> ?_⟩
  ·have:=dg i hi;rw[Nat.zero_add]at this;exact this
  ·unfold World.frozen?;rw[show (⟨g,j,none⟩:Addr).block=g from rfl,hg];simp
theorem Li.ext{w w':World}{g:Nat}{env:Env}(h:Li w g env)(hx:Ext w w'):RdE w' (.slice (some ⟨g,0,none⟩) env.length 0) env:=
 ⟨_,_,rfl,fun _=>⟨g,0,rfl,Nat.lt_of_lt_of_le h.lt hx.size,fun i hi=>by
   rw[Nat.zero_add];exact⟨(hx.cell h.lt).trans (h.at_ i hi).1,(hx.cell h.lt).trans (h.at_ i hi).2⟩⟩⟩
theorem RdE.cap{w:World}{A:Option Addr}{n c c':Nat}{env:Env}(h:RdE w (.slice A n c) env):RdE w (.slice A n c') env:=by
 obtain⟨A',c2,he,hc⟩:=h;injection he with e1 e2
 subst e1;subst e2;exact⟨A,c',rfl,hc⟩
theorem Li.put{w:World}{g:Nat}{env:Env}(h:Li w g env){k:Nat}(hk:k<env.length)(y:Tx × Int){o:Nat}{u:Value}(ho:(o=k*2/\u=str y.1/\y.2=env[k].2)\/(o=k*2+1/\u= .int .i64 y.2/\y.1=env[k].1)):
  Li (w.setCell ⟨g,o,none⟩ u) g (env.set k y):=by
 have ac:∀j u',w.cell? ⟨g,j,none⟩=some u'->j≠o->(w.setCell ⟨g,o,none⟩ u).cell? ⟨g,j,none⟩=some u':=fun j u' hj hne=>by
  rw[World.cell?_setCell_other _ _ _ _ (fun e=>hne (by injection e with _ e _;omega))];exact hj
 refine⟨by simpa using h.lt,fun i hi=> ?_,fun j=>by rw[World.frozen?_setCell];exact h.fr j⟩;rw[List.length_set]at hi;have h1:=h.at_ i hi;by_cases hik:i=k
 ·subst hik;rw[List.getElem_set_self];rcases ho with ⟨rfl,rfl,e⟩|⟨rfl,rfl,e⟩
  ·exact⟨World.cell?_setCell_same _ _ _ h1.1,by rw[e];exact ac _ _ h1.2 (by omega)⟩
  ·exact⟨by rw[e];exact ac _ _ h1.1 (by omega),World.cell?_setCell_same _ _ _ h1.2⟩
 ·rw[List.getElem_set_ne (fun e=>hik e.symm)];rcases ho with ⟨rfl,_,_⟩|⟨rfl,_,_⟩
  ·exact⟨ac _ _ h1.1 (by omega),ac _ _ h1.2 (by omega)⟩
  ·exact⟨ac _ _ h1.1 (by omega),ac _ _ h1.2 (by omega)⟩
theorem TxE.set{env:Env}(h:TxE env)(k:Nat){y:Tx × Int}(h1:y.1.length<=1000000)(h2:(Lit.int .i64 y.2).wf=true):TxE (env.set k y):=by
 intro b hb;rcases List.mem_or_eq_of_mem_set hb with hb|rfl
 ·exact h b hb
 ·exact⟨h1,h2⟩
theorem Ia(w:World)(v u:Value)(l m:List Int)(x:Value)(mM:Env)(pa nd:Int)(t:List UInt8)(hx:RdE w x mM)(av:∀b∈mM,b.1.length<=maxLen/\(Lit.int .i64 b.2).wf=true)(hp: -9223372036854775808<=pa/\pa<=9223372036854775807)(hnd:(Lit.int .i64 nd).wf=true)(ht:t.length<=maxLen)(h:De w v l)(h':De w u m)(hm:BC w):
  Calls Tryz.prog 6 #[v,u,x,.int .i64 pa,.int .i64 nd,str t] w fun e w'=>e= .returned (.bool true)/\Ext w w':=by
 have eV:=J hx;have cD:=J av;obtain⟨Ar,cr,rfl,VW⟩:=hx;have wR:=J VW;obtain⟨nr,rQ⟩:∃nr,mM.length=nr:=⟨_,rfl⟩;have cF:=J rQ;rw[rQ]at eV ⊢;clear VW av rQ;have gK:=J (DZ w hm);have HM:=J hm;have HL:=J h;have cj:=J h';have aW:=J (fun W hx=>Di W v l (HL.o.ext hx));have ch:=J (fun W hx=>Di W u m (cj.o.ext hx));obtain⟨A0,c0,rfl,_⟩:=h.open;obtain⟨A9,c9,rfl,_⟩:=h'.open;clear h h' hm;by_cases hlt:120<l.length
 ·have hd:decide (l.length<=120)=false:=decide_eq_false (by omega);rw[hd]at aW;clear HL cj hlt hd;go_enter Tryz.func6,Tryz.ntmps6;go_wp2_with fail;refine gK.o.mono ?_
  rintro e w1 ⟨rfl,am⟩;have ah:=J am;clear am;go_wp2_with fail;refine(aW.o _ ah.o).mono ?_
  rintro e w2 ⟨rfl,rfl⟩;go_wp2_with fail;go_ret;exact⟨rfl,ah.o⟩
 have hd:decide (l.length<=120)=true:=decide_eq_true (by omega);rw[hd]at aW;have fG:l.length<=120:=by omega
 clear hlt hd;by_cases hlt2:120<m.length
 ·have hd:decide (m.length<=120)=false:=decide_eq_false (by omega);rw[hd]at ch;clear HL cj hlt2 hd;go_enter Tryz.func6,Tryz.ntmps6;go_wp2_with fail;refine gK.o.mono ?_
  rintro e w1 ⟨rfl,am⟩;have ah:=J am;clear am;go_wp2_with fail;refine(aW.o _ ah.o).mono ?_
  rintro e w2 ⟨rfl,rfl⟩;go_wp2_with fail;refine(ch.o _ ah.o).mono ?_
  rintro e w2 ⟨rfl,rfl⟩;go_wp2_with fail;go_ret;exact⟨rfl,ah.o⟩
 have hd:decide (m.length<=120)=true:=decide_eq_true (by omega);rw[hd]at ch;have jd:m.length<=120:=by omega
 clear hlt2 hd;by_cases hlt3:20<nr
 ·have hd:decide ((nr:Int)>20)=true:=decide_eq_true (by omega);have ba:decide ((20:Int)<(nr:Int))=true:=decide_eq_true (by omega);have kT:decide (20<nr)=true:=decide_eq_true hlt3;clear HL cj hlt3;go_enter Tryz.func6,Tryz.ntmps6;go_wp2_with fail;refine gK.o.mono ?_
  rintro e w1 ⟨rfl,am⟩;have ah:=J am;clear am;go_wp2_with fail;refine(aW.o _ ah.o).mono ?_
  rintro e w2 ⟨rfl,rfl⟩;go_wp2_with fail;refine(ch.o _ ah.o).mono ?_
  rintro e w2 ⟨rfl,rfl⟩;go_wp2_with fail;go_ret;exact⟨rfl,ah.o⟩
 have YU:decide ((nr:Int)>20)=false:=decide_eq_false (by omega);have zU:decide ((20:Int)<(nr:Int))=false:=decide_eq_false (by omega);have zS:decide (20<nr)=false:=decide_eq_false hlt3;have xX:Hid (nr<=20):=J (by omega);clear hlt3;by_cases hlt3:100<t.length
 ·have hd:decide ((t.length:Int)>100)=true:=decide_eq_true (by omega);have ba:decide ((100:Int)<(t.length:Int))=true:=decide_eq_true (by omega);have kT:decide (100<t.length)=true:=decide_eq_true hlt3;clear HL cj hlt3;go_enter Tryz.func6,Tryz.ntmps6;go_wp2_with fail;refine gK.o.mono ?_
  rintro e w1 ⟨rfl,am⟩;have ah:=J am;clear am;go_wp2_with fail;refine(aW.o _ ah.o).mono ?_
  rintro e w2 ⟨rfl,rfl⟩;go_wp2_with fail;refine(ch.o _ ah.o).mono ?_
  rintro e w2 ⟨rfl,rfl⟩;go_wp2_with fail;go_ret;exact⟨rfl,ah.o⟩
 have qJ:decide ((t.length:Int)>100)=false:=decide_eq_false (by omega);have zT:decide ((100:Int)<(t.length:Int))=false:=decide_eq_false (by omega);have zR:decide (100<t.length)=false:=decide_eq_false hlt3;have ZS:Hid (t.length<=100):=J (by omega);clear hlt3;go_enter Tryz.func6,Tryz.ntmps6;go_wp2_with fail;refine gK.o.mono ?_
 rintro e w1 ⟨rfl,am⟩;have ah:=J am;clear am;go_wp2_with fail;refine(aW.o _ ah.o).mono ?_
 rintro e w2 ⟨rfl,rfl⟩;go_wp2_with fail;refine(ch.o _ ah.o).mono ?_
 rintro e w2 ⟨rfl,rfl⟩;clear aW ch gK;go_wp2_with fail;clear YU zU zS qJ zT zR;go_loopw [43] (fun yx wr=>∃k:Nat,k<=nr/\yx= .int .i64 (k:Int)/\(∀b∈mM.take k,b.1.length<=100)/\w1=wr) (fun yx _=>nr-(intOf yx).toNat)
 case atStart=>exact⟨0,Nat.zero_le _,rfl,(fun b hb=>by simp at hb),rfl⟩
 case round=>
  obtain⟨k,hk,rfl,ho,rfl⟩:=hrel;by_cases hlt:k<nr
  ·have bB:k<mM.length:=by rw[cF.o];exact hlt
   have cx:decide ((k:Int)<(nr:Int))=true:=decide_eq_true (by omega);have ba:decide (k<nr)=true:=decide_eq_true hlt;have hw:IntKind.i64.wrap ((k:Int)+1)=(k:Int)+1:=IntWalk.i64_in _ (by have:=xX.o;omega);obtain⟨ge,oe,rfl,dU,hc⟩:=wR.o (by omega);obtain⟨p0,p1⟩:=hc k bB;rw[<-ah.o.cell dU]at p0 p1;have YM:ge<w1.heap.size:=Nat.lt_of_lt_of_le dU ah.o.size;have eG:Hid (mM[k].1.length<=100->∀b∈mM.take (k+1),b.1.length<=100):=J (fun hq b hb=>by
    rw[List.take_succ_eq_append_getElem bB]at hb;rcases List.mem_append.1 hb with hb|hb
    ·exact ho b hb
    ·rw[List.mem_singleton]at hb;subst hb;exact hq)
   have ao:=cD.o _ (List.getElem_mem bB);have fy:(0:Int)<=(k:Int):=by omega
   clear hc dU ho;generalize mM[k]=y at *;clear bB;obtain⟨u,z⟩:=y;simp only at p0 p1 eG ao;have hul:=ao.1;clear ao p1;by_cases hu:100<u.length
   ·have he1:decide ((u.length:Int)>100)=true:=decide_eq_true (by omega);have he2:decide ((100:Int)<(u.length:Int))=true:=decide_eq_true (by omega);have he3:decide (100<u.length)=true:=decide_eq_true hu;go_wp2_with fail;go_ret;exact⟨rfl,ah.o⟩
   ·have he1:decide ((u.length:Int)>100)=false:=decide_eq_false (by omega);have he2:decide ((100:Int)<(u.length:Int))=false:=decide_eq_false (by omega);have he3:decide (100<u.length)=false:=decide_eq_false hu;have lL:=J (eG.o (by omega));go_wp2_with fail;go_roundw
    case rel=>exact⟨k+1,by omega,by go_num,lL.o,trivial⟩
    case measure=>simp[intOf];omega
  ·obtain rfl:nr=k:=by omega
   have cJ:Hid (TxE mM):=J (fun b hb=>by
    have h1:=ho b (by rw[List.take_of_length_le (by rw[cF.o];exact Nat.le_refl _)];exact hb);exact⟨by omega,(cD.o b hb).2⟩)
   have xd:=J (JD w1 _ l (HL.o.ext ah.o) (by omega));clear ho cD HL hlt hk;go_wp2_with fail;refine xd.o.mono ?_
   rintro e w2 ⟨gr,ns,rv,rfl,o6,fx,au⟩;have aq:=J (ah.o.trans au);have dE:=J o6;have j9:=J (JF _ gr w2 ns rv o6 (HM.o.ext (ah.o.trans au)));unfold LW at j9;clear o6 fx au xd;go_wp2_with fail;refine j9.o.mono ?_
   rintro e w3 ⟨g,b,nv,rfl,jN,ae⟩;have aj:=J (aq.o.trans ae);have oB:=J jN;have eQ:=J (dE.o.keep ae);have lk:=J (MG _ gr w3 ns rv (dE.o.keep ae) _ m (cj.o.ext (aq.o.trans ae)) (by omega));unfold I1 at lk;clear jN ae j9 dE cj aq;go_wp2_with fail;refine lk.o.mono ?_
   rintro e w4 ⟨ev,env,rfl,eR,he5,cd,aR⟩;have aE:=J (aj.o.trans aR);have U0:=J (oB.o.keep aR);have iS:=J (eQ.o.keep aR);have jm:=J eR;have nc:=J cd;have ll:=J he5;clear eR he5 cd aR lk aj oB eQ;obtain⟨Ae,ce,nZ⟩:=jm.o.shape;obtain⟨me,hme⟩:∃me,env.length=me:=⟨_,rfl⟩;rw[hme]at nZ;subst nZ;have dB:=J hme;clear hme;have bg:=J ((Ext.refl w4).alloc (.cells #[] 62));have j5:Hid (AG w4.heap.size (w4.alloc (.cells #[] 62)) (.slice (some ⟨w4.heap.size,0,none⟩) 0 0) []):=J ⟨rfl,.inr ⟨w4.heap.size,0,#[],rfl,Nat.le_refl _,Blk.new w4 _ _,Nat.le_refl _,by decide,rfl,rfl⟩⟩;have j6:=J (jm.o.ext bg.o);have eW:Hid (([]:Env).length+env.length<=1000000):=J (by have:=ll.o;simp only[List.length_nil];omega);have fK:=J bg.o.size;rcases Nat.eq_zero_or_pos me with rS|oX
   ·subst rS;go_wp2_with (at_builtin;go_must (refine FB (B:=w4.heap.size) (xs:=[]) (ys:=env) rfl _ _ rfl rfl j5.o rfl j6.o eW.o fK.o ?_;intro v5 w5 cY jT;rw[List.nil_append]at cY;obtain⟨A5,c5,ux⟩:=cY.shape;rw[dB.o]at ux;subst ux));have bP:Hid (RdE w5 (.slice A5 0 c5) env):=J cY.read;have aO:=J (bg.o.more jT);clear cY jT;go_wp2_with fail;have kB:=Blk.new w5 60 #[.slice Ae 0 ce,.slice Ar nr cr,.slice A5 0 c5];have be:=(Ext.refl w5).alloc (.cells #[.slice Ae 0 ce,.slice Ar nr cr,.slice A5 0 c5] 60);generalize w5.alloc (.cells #[.slice Ae 0 ce,.slice Ar nr cr,.slice A5 0 c5] 60)=w7 at *;generalize w5.heap.size=sb at *;have bX:=J kB;have ay:=J (aO.o.trans be);have pf:=J (bP.o.ext be);clear kB be;go_loopw [91] (fun ni wr=>∃k:Nat,k<=3/\ni= .int .i64 (k:Int)/\Ext w7 wr) (fun ni _=>3-(intOf ni).toNat)
    case atStart=>exact⟨0,by decide,rfl,Ext.refl w7⟩
    case round=>
     obtain⟨k,hk,rfl,hx⟩:=hrel;by_cases hlt:k<3
     ·have cx:decide ((k:Int)<3)=true:=decide_eq_true (by omega);have ba:decide (k<3)=true:=decide_eq_true hlt;have hw:IntKind.i64.wrap ((k:Int)+1)=(k:Int)+1:=IntWalk.i64_in _ (by omega);have HX:=J (ay.o.trans hx);obtain⟨yA,yn,yc,ye,hz,fm,i9,gg⟩:∃yA yn yc ye,wr.cell? ⟨sb,k,none⟩=some (.slice yA yn yc)/\RdE wr (.slice yA yn yc) ye/\ye.length<=100000/\TxE ye:=by
       have hb:=bX.o.ext hx;rcases(show k=0\/k=1\/k=2 by omega) with rfl|rfl|rfl
       ·exact⟨_,_,_,env,hb.cell 0,(jm.o.ext HX.o).read,by have:=ll.o;omega,nc.o⟩
       ·exact⟨_,_,_,mM,hb.cell 1,eV.o.ext (aE.o.trans HX.o),by rw[cF.o];have:=xX.o;omega,cJ.o⟩
       ·exact⟨_,_,_,env,hb.cell 2,pf.o.ext hx,by (try rw[List.length_set]);have:=ll.o;omega,nc.o⟩
      have jt:=World.block_lt_of_cell? wr _ hz;have jX:=J (Df _ g b wr ns nv (U0.o.keep HX.o) _ ye fm i9 gg);have iH:=J (fun W (hy:Ext wr W)=>Ee _ gr W ns rv (iS.o.keep (HX.o.trans hy)) _ ye (fm.ext hy) i9 gg);unfold Cp at jX iH;have mW:=J hx;clear fm i9 gg hx HX;go_wp2_with fail;refine jX.o.mono ?_
      rintro e wa ⟨d1,rfl,jR,lq⟩;have ax:=J lq;have q8:=J jR;clear jR lq jX;go_wp2_with fail;refine(iH.o _ ax.o).mono ?_
      rintro e wb ⟨d2,rfl,jQ,gY⟩;obtain rfl:d1=d2:=by rw[Bool.eq_iff_iff,q8.o,jQ]
      have bS:=J (mW.o.trans (ax.o.trans gY));have qI:(d1 != d1)=false:=by cases d1<;>rfl
      clear jQ gY iH ax q8 mW;go_wp2_with fail;go_roundw
      case rel=>exact⟨k+1,by omega,by go_num,bS.o⟩
      case measure=>simp[intOf];omega
     ·obtain rfl:k=3:=by omega
      have HF:=J (aE.o.trans (ay.o.trans hx));clear hx ay bX hlt hk;go_wp2_with fail;go_ret;exact⟨rfl,HF.o⟩
   ·have cx:decide ((me:Int)>0)=true:=decide_eq_true (by omega);have ba:decide ((0:Int)<(me:Int))=true:=decide_eq_true (by omega);have kT:decide (0<me)=true:=decide_eq_true oX;have pi:=J (fun W=>Gb W pa (me:Int) hp.1 hp.2 (by omega) (by have:=ll.o;rw[dB.o]at this;omega));obtain⟨r,hr⟩:∃r:Nat,pa % (me:Int)=(r:Int):=⟨(pa % (me:Int)).toNat,by have:=Int.emod_nonneg pa (show (me:Int)≠0 by omega);omega⟩;have qy:r<me:=by have:=Int.emod_lt_of_pos pa (show 0<(me:Int) by omega);omega
    rw[hr]at pi;clear hr;go_wp2_with (at_builtin;go_must (refine FB (B:=w4.heap.size) (xs:=[]) (ys:=env) rfl _ _ rfl rfl j5.o rfl j6.o eW.o fK.o ?_;intro v5 w5 cY jT;rw[List.nil_append]at cY;obtain⟨q,cq,ux,V2,vK⟩:=cY.bds (by rw[dB.o];exact oX);rw[dB.o]at ux;subst ux;have dP:=J vK;have W2:=J V2;have aO:=J (bg.o.more jT);clear cY jT V2 vK));refine(pi.o _).mono ?_
    rintro e w6 ⟨rfl,rfl⟩;clear pi j5 j6 eW fK;have uO:r<env.length:=by rw[dB.o];exact qy
    have c0:=(dP.o.at_ r uO).1;have c1:=(dP.o.at_ r uO).2;have f0:=dP.o.fr (r*2);have f1:=dP.o.fr (r*2+1);have hq:=dP.o.lt;have e9:(0:Int)<=(r:Int):=by omega
    have X8:(r:Int)<(me:Int):=by omega
    have HY:=J (nc.o _ (List.getElem_mem uO));have bv:=J (dP.o.put uO (env[r].1,nd) (o:=r*2+1) (u:= .int .i64 nd) (.inr ⟨rfl,rfl,rfl⟩));have aO:Hid (Ext w4 (w5.setCell ⟨q,r*2+1,none⟩ (.int .i64 nd))):=J (aO.o.more (Below.setCell (Below.refl _ w5) W2.o _));generalize env[r]=y at *;obtain⟨y1,y2⟩:=y;simp only at c0 c1 HY bv;go_upto_region 20 with fail;generalize w5.setCell ⟨q,r*2+1,none⟩ (.int .i64 nd)=w6 at *;clear c0 c1 f0 f1 hq dP;obtain⟨r3,gp⟩:∃r3,pa.tmod 3=r3:=⟨_,rfl⟩;have uN:r<(env.set r (y1,nd)).length:=by rw[List.length_set];exact uO
    have c0:=(bv.o.at_ r uN).1;have f0:=bv.o.fr (r*2);have hq:=bv.o.lt;have UR:Hid (∃s,str t= .string s):=J ⟨_,rfl⟩;obtain⟨s,ai⟩:=UR.o;rw[ai];have bX:=J (bv.o.put uN (t,nd) (o:=r*2) (u:=str t) (.inl ⟨rfl,rfl,by rw[List.getElem_set_self]⟩));rw[ai]at bX;clear ai;by_cases h30:r3=0
    ·have Zo:(r3 == 0)=true:=beq_iff_eq.2 h30;have aO:Hid (Ext w4 (w6.setCell ⟨q,r*2,none⟩ (.string s))):=J (aO.o.more (Below.setCell (Below.refl _ w6) W2.o _));go_upto_region 22 with fail;generalize w6.setCell ⟨q,r*2,none⟩ (.string s)=w6b at *;have bP:Hid (RdE w6b (.slice (some ⟨q,0,none⟩) me cq) ((env.set r (y1,nd)).set r (t,nd))):=J (by
      have h:=(bX.o.ext (Ext.refl w6b)).cap (c':=cq);rw[List.length_set,List.length_set,dB.o]at h;exact h)
     clear c0 f0 hq bv bX;go_wp2_with fail;have kB:=Blk.new w6b 60 #[.slice Ae me ce,.slice Ar nr cr,.slice (some ⟨q,0,none⟩) me cq];have be:=(Ext.refl w6b).alloc (.cells #[.slice Ae me ce,.slice Ar nr cr,.slice (some ⟨q,0,none⟩) me cq] 60);generalize w6b.alloc (.cells #[.slice Ae me ce,.slice Ar nr cr,.slice (some ⟨q,0,none⟩) me cq] 60)=w7 at *;generalize w6b.heap.size=sb at *;have bX:=J kB;have ay:=J (aO.o.trans be);have pf:=J (bP.o.ext be);clear kB be;go_loopw [91] (fun ni wr=>∃k:Nat,k<=3/\ni= .int .i64 (k:Int)/\Ext w7 wr) (fun ni _=>3-(intOf ni).toNat)
     case atStart=>exact⟨0,by decide,rfl,Ext.refl w7⟩
     case round=>
      obtain⟨k,hk,rfl,hx⟩:=hrel;by_cases hlt:k<3
      ·have cx:decide ((k:Int)<3)=true:=decide_eq_true (by omega);have ba:decide (k<3)=true:=decide_eq_true hlt;have hw:IntKind.i64.wrap ((k:Int)+1)=(k:Int)+1:=IntWalk.i64_in _ (by omega);have HX:=J (ay.o.trans hx);obtain⟨yA,yn,yc,ye,hz,fm,i9,gg⟩:∃yA yn yc ye,wr.cell? ⟨sb,k,none⟩=some (.slice yA yn yc)/\RdE wr (.slice yA yn yc) ye/\ye.length<=100000/\TxE ye:=by
        have hb:=bX.o.ext hx;rcases(show k=0\/k=1\/k=2 by omega) with rfl|rfl|rfl
        ·exact⟨_,_,_,env,hb.cell 0,(jm.o.ext HX.o).read,by have:=ll.o;omega,nc.o⟩
        ·exact⟨_,_,_,mM,hb.cell 1,eV.o.ext (aE.o.trans HX.o),by rw[cF.o];have:=xX.o;omega,cJ.o⟩
        ·exact⟨_,_,_,((env.set r (y1,nd)).set r (t,nd)),hb.cell 2,pf.o.ext hx,by (try rw[List.length_set,List.length_set]);have:=ll.o;omega,((nc.o.set r HY.o.1 hnd).set r (by show t.length<=1000000;have:=ZS.o;omega) hnd)⟩
       have jt:=World.block_lt_of_cell? wr _ hz;have jX:=J (Df _ g b wr ns nv (U0.o.keep HX.o) _ ye fm i9 gg);have iH:=J (fun W (hy:Ext wr W)=>Ee _ gr W ns rv (iS.o.keep (HX.o.trans hy)) _ ye (fm.ext hy) i9 gg);unfold Cp at jX iH;have mW:=J hx;clear fm i9 gg hx HX;go_wp2_with fail;refine jX.o.mono ?_
       rintro e wa ⟨d1,rfl,jR,lq⟩;have ax:=J lq;have q8:=J jR;clear jR lq jX;go_wp2_with fail;refine(iH.o _ ax.o).mono ?_
       rintro e wb ⟨d2,rfl,jQ,gY⟩;obtain rfl:d1=d2:=by rw[Bool.eq_iff_iff,q8.o,jQ]
       have bS:=J (mW.o.trans (ax.o.trans gY));have qI:(d1 != d1)=false:=by cases d1<;>rfl
       clear jQ gY iH ax q8 mW;go_wp2_with fail;go_roundw
       case rel=>exact⟨k+1,by omega,by go_num,bS.o⟩
       case measure=>simp[intOf];omega
      ·obtain rfl:k=3:=by omega
       have HF:=J (aE.o.trans (ay.o.trans hx));clear hx ay bX hlt hk;go_wp2_with fail;go_ret;exact⟨rfl,HF.o⟩
    ·have Zo:(r3 == 0)=false:=beq_eq_false_iff_ne.2 h30;have bP:Hid (RdE w6 (.slice (some ⟨q,0,none⟩) me cq) (env.set r (y1,nd))):=J (by
      have h:=(bv.o.ext (Ext.refl w6)).cap (c':=cq);rw[List.length_set,dB.o]at h;exact h)
     go_wp2_with fail;clear c0 f0 hq bv bX;have kB:=Blk.new w6 60 #[.slice Ae me ce,.slice Ar nr cr,.slice (some ⟨q,0,none⟩) me cq];have be:=(Ext.refl w6).alloc (.cells #[.slice Ae me ce,.slice Ar nr cr,.slice (some ⟨q,0,none⟩) me cq] 60);generalize w6.alloc (.cells #[.slice Ae me ce,.slice Ar nr cr,.slice (some ⟨q,0,none⟩) me cq] 60)=w7 at *;generalize w6.heap.size=sb at *;have bX:=J kB;have ay:=J (aO.o.trans be);have pf:=J (bP.o.ext be);clear kB be;go_loopw [91] (fun ni wr=>∃k:Nat,k<=3/\ni= .int .i64 (k:Int)/\Ext w7 wr) (fun ni _=>3-(intOf ni).toNat)
     case atStart=>exact⟨0,by decide,rfl,Ext.refl w7⟩
     case round=>
      obtain⟨k,hk,rfl,hx⟩:=hrel;by_cases hlt:k<3
      ·have cx:decide ((k:Int)<3)=true:=decide_eq_true (by omega);have ba:decide (k<3)=true:=decide_eq_true hlt;have hw:IntKind.i64.wrap ((k:Int)+1)=(k:Int)+1:=IntWalk.i64_in _ (by omega);have HX:=J (ay.o.trans hx);obtain⟨yA,yn,yc,ye,hz,fm,i9,gg⟩:∃yA yn yc ye,wr.cell? ⟨sb,k,none⟩=some (.slice yA yn yc)/\RdE wr (.slice yA yn yc) ye/\ye.length<=100000/\TxE ye:=by
        have hb:=bX.o.ext hx;rcases(show k=0\/k=1\/k=2 by omega) with rfl|rfl|rfl
        ·exact⟨_,_,_,env,hb.cell 0,(jm.o.ext HX.o).read,by have:=ll.o;omega,nc.o⟩
        ·exact⟨_,_,_,mM,hb.cell 1,eV.o.ext (aE.o.trans HX.o),by rw[cF.o];have:=xX.o;omega,cJ.o⟩
        ·exact⟨_,_,_,(env.set r (y1,nd)),hb.cell 2,pf.o.ext hx,by (try rw[List.length_set]);have:=ll.o;omega,(nc.o.set r HY.o.1 hnd)⟩
       have jt:=World.block_lt_of_cell? wr _ hz;have jX:=J (Df _ g b wr ns nv (U0.o.keep HX.o) _ ye fm i9 gg);have iH:=J (fun W (hy:Ext wr W)=>Ee _ gr W ns rv (iS.o.keep (HX.o.trans hy)) _ ye (fm.ext hy) i9 gg);unfold Cp at jX iH;have mW:=J hx;clear fm i9 gg hx HX;go_wp2_with fail;refine jX.o.mono ?_
       rintro e wa ⟨d1,rfl,jR,lq⟩;have ax:=J lq;have q8:=J jR;clear jR lq jX;go_wp2_with fail;refine(iH.o _ ax.o).mono ?_
       rintro e wb ⟨d2,rfl,jQ,gY⟩;obtain rfl:d1=d2:=by rw[Bool.eq_iff_iff,q8.o,jQ]
       have bS:=J (mW.o.trans (ax.o.trans gY));have qI:(d1 != d1)=false:=by cases d1<;>rfl
       clear jQ gY iH ax q8 mW;go_wp2_with fail;go_roundw
       case rel=>exact⟨k+1,by omega,by go_num,bS.o⟩
       case measure=>simp[intOf];omega
      ·obtain rfl:k=3:=by omega
       have HF:=J (aE.o.trans (ay.o.trans hx));clear hx ay bX hlt hk;go_wp2_with fail;go_ret;exact⟨rfl,HF.o⟩
end Big
end Go.Proofs.YtkoaogkknnelaaaGreatDoor
