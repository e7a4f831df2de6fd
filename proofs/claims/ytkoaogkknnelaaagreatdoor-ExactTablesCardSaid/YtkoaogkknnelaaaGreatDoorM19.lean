import Derived.Test.YtkoaogkknnelaaaGreatDoorM18
set_option linter.unusedVariables false
set_option linter.unusedSimpArgs false
set_option maxHeartbeats 1000000
set_option maxRecDepth 100000
namespace Go.Proofs.YtkoaogkknnelaaaGreatDoor
namespace Big
open Lib renaming hid → J
open Go.RowKit
def I8(w0 wr:World)(xs:List Nat)(m c k cy:Nat):Prop:=
 ∃ys:List Nat,ys.length=k/\Ok ys/\val ys+4294967296 ^ k*cy=val (xs.take k)*m+c/\
  Blk wr w0.heap.size 183 (cells (ys++List.replicate (xs.length+1-k) 0))/\Ext w0 wr
theorem I8.step {w0 wr:World} {xs ys:List Nat} {m c k q x:Nat} (hk:k<xs.length) (hl:ys.length=k) (aA:Ok ys)
  (hv:val (ys++[(q+x*m) % 4294967296])+4294967296 ^ (k+1)*((q+x*m) / 4294967296)=val (xs.take (k+1))*m+c)
  (hb:Blk wr w0.heap.size 183 (cells (ys++List.replicate (xs.length+1-k) 0))) (he:Ext w0 wr):
  I8 w0 (wr.setCell ⟨w0.heap.size,k,none⟩ (d32 ((q+x*m) % 4294967296))) xs m c (k+1) ((q+x*m) / 4294967296):=by
 refine⟨ys++[(q+x*m) % 4294967296],by simp[hl],aA.snoc (qba _ (by omega)),hv,?_,he.setCell (qab _) _⟩;have h1:=hb.set_ k (d32 ((q+x*m) % 4294967296));rw[BE,show xs.length+1-k=(xs.length-k)+1 by omega]at h1;have h2:=Do ys (xs.length-k) ((q+x*m) % 4294967296);rw[hl]at h2;rw[h2]at h1;rw[show xs.length+1-(k+1)=xs.length-k by omega];exact h1
theorem E5(w:World)(v:Value)(xs:List Nat)(m c:Nat)(h:Arr w v xs)(hn:xs.length<=536870912)(hm:m<4294967296)(hc:c<4294967296):
  Calls Tryz.prog 246 #[v,.int .u32 (m:Int),.int .u32 (c:Int)] w fun e w'=>∃v',e= .returned v'/\Own w.heap.size w' v' (Ac (val xs*m+c))/\Ext w w':=by
 have HA:=J h;obtain⟨aA,A,cap,rfl,dL,eA,aa⟩:=h.open;have HM:=J eA;have HC:=J aa;have dp:=C4 xs.length (by omega);have mw:=J dp;clear h aa eA dL;go_enter Tryz.func246,Tryz.ntmps246;go_wp2_with fail;clear dp;go_loopw [8,19] (fun cy i wr=>∃k q:Nat,k<=xs.length/\q<4294967296/\i= .int .i64 k/\cy= .int .u64 q/\I8 w wr xs m c k q) (fun _ i _=>xs.length-(intOf i).toNat)
 case atStart=>exact⟨0,c,qaj _,hc,rfl,rfl,[],rfl,Cq,by simp[val],Blk.new _ _ _,(Ext.refl w).alloc _⟩
 case round=>
  obtain⟨k,q,hk,hq,rfl,rfl,ys,hl,bR,hv,ax,ae⟩:=hrel;have HV:=J hv;clear hv;have HB:=J ax;clear ax;have HL:=J hl;clear hl;by_cases hlt:k<xs.length
  ·obtain⟨b,o,rfl,hb,aa⟩:=HC.o (by omega);have hx:=(ae.cell hb).trans (aa k hlt);have hst:=HB.o.cell k;have hfz:=HB.o.frozen k;rw[Bi _ _ (by simp[HL.o];omega)]at hst;clear aa;have cW:=aA.get k;have HS:=J (Je xs ys k m c q hlt HL.o HV.o);have hp:=I0 cW hm;obtain⟨x,bS⟩:∃x,xs.getD k 0=x:=⟨_,rfl⟩;rw[bS]at hx cW hp HS;clear bS;have vD:(x:Int)*(m:Int)<=18446744065119617025:=by rw[<-qbz];omega
   have hp0:0<=(x:Int)*(m:Int):=by rw[<-qbz];omega
   simp only[d32]at hx hst
   go_wp2
   go_round
   case rel=>
    refine⟨k+1,(q+x*m) / 4294967296,by omega,?_,by go_num,by go_num,?_⟩
    ·exact qbj (by omega)
    ·exact I8.step hlt HL.o bR HS.o HB.o ae
   case measure=>simp[intOf];omega
  ·obtain rfl:k=xs.length:=by omega
   have hst:=HB.o.cell xs.length;have hfz:=HB.o.frozen xs.length;rw[Bi _ _ (by simp[HL.o])]at hst;have aB:Own w.heap.size (wr.setCell ⟨w.heap.size,xs.length,none⟩ (d32 q)) (.slice (some ⟨w.heap.size,0,none⟩) (xs.length+1) (xs.length+1)) (ys++[q]):=by
    have h1:=HB.o.set_ xs.length (d32 q);have h2:=Do ys 0 q;rw[HL.o]at h2;rw[BE,show xs.length+1-xs.length=0+1 by omega,h2]at h1;have h3:=Own.block (B:=w.heap.size) (bR.snoc hq) (by simpa using h1) (qab _) (by simp[HL.o];omega)
    simpa [HL.o] using h3
   have hval:val (ys++[q])=val xs*m+c:=by
    rw[BS,HL.o,HV.o,qaf (qab _)]
   have HT:=J (Bu _ _ _ aB.arr (by simp[HL.o];omega));rw[hval]at HT;have gK:=J hval;have HO:=J aB;clear hval aB;simp only[d32]at hst;go_wp2_with fail;refine HT.o.mono ?_
   rintro e w' ⟨v',rfl,ho,hx⟩;go_wp2_with fail;go_ret;have he:Ext w (wr.setCell ⟨w.heap.size,xs.length,none⟩ (d32 q)):=ae.setCell (qab _) _;exact⟨_,rfl,ho.mono he.size,he.trans hx⟩
theorem Qn(X g:Nat):(Ac (X / g)).length<=(Ac X).length:=Ay (qbs _ _)
def T8(X Y:Nat)(w:World)(e:Ending)(w':World):Prop:=
 ∃v' u',e= .returned (.tuple #[v',u',.bool true])/\Own w.heap.size w' v' (Ac (X / Nat.gcd X Y))/\Own w.heap.size w' u' (Ac (Y / Nat.gcd X Y))/\Ext w w'
theorem Of(w:World)(v u:Value)(xs ys:List Nat)(h:Arr w v xs)(h':Arr w u ys)(hn:xs.length<=134217728)(bA:ys.length<=134217728)(hy:val ys≠0):
  Calls Tryz.prog 250 #[v,u] w (T8 (val xs) (val ys) w):=by
 have HB:=J (Ej w u ys h' bA);have hb0:AT (val ys)≠0:=fun e=>hy (Ek.1 e)
 have HG:=J (TS w v u xs ys h h' hn bA);have eZ:(Ac (Nat.gcd (val xs) (val ys))).length<=134217728:=qae (Ay (Nat.gcd_le_right _ (qcn hy))) (qae (Aq h'.ok) bA);have oz:Nat.gcd (val xs) (val ys)≠0:=fun e=>hy (Nat.gcd_eq_zero_iff.1 e).2
 have gP:=J (fun W z hx a=>Et W v z xs (Ac (Nat.gcd (val xs) (val ys))) (h.ext hx) a hn eZ (by rw[Ad];exact oz));have nL:=J (fun W z hx a=>Et W u z ys (Ac (Nat.gcd (val xs) (val ys))) (h'.ext hx) a bA eZ (by rw[Ad];exact oz));rw[Ad]at gP nL;obtain⟨nv,Av,cv,rfl⟩:=h.shape;obtain⟨nu,Au,cu,rfl⟩:=h'.shape;generalize val xs=X at *;generalize val ys=Y at *;have dR:((AT Y:Int) == 0)=false:=by rw[beq_eq_false_iff_ne];omega
 generalize AT Y=bY at *;clear h h' hn bA hy oz eZ hb0;go_enter Tryz.func250,Tryz.ntmps250;go_wp2_with fail;refine HB.o.mono ?_
 rintro e w1 ⟨rfl,rfl⟩;go_wp2_with fail;refine HG.o.mono ?_
 rintro e w1 ⟨v1,rfl,dM,ak⟩;have au:=J ak;have fN:=J dM;obtain⟨n1,A1,c1,rfl⟩:=dM.shape;clear dM ak;go_wp2_with fail;refine(gP.o _ _ au.o fN.o.arr).mono ?_
 rintro e w2 ⟨v2,u2,rfl,de,hr2,ah⟩;have aR:=J (au.o.trans ah);have em:=J (de.mono au.o.size);have m9:=J (fN.o.ext ah);obtain⟨n2,A2,c2,rfl⟩:=de.shape;obtain⟨n2',ZC,YP,rfl⟩:=hr2.shape;clear de hr2 ah;go_wp2_with fail;refine(nL.o _ _ aR.o m9.o.arr).mono ?_
 rintro e w3 ⟨v3,u3,rfl,jc,bx,ab⟩;have aE:=J (aR.o.trans ab);have pQ:=J (jc.mono aR.o.size);have tX:=J (em.o.ext ab);obtain⟨n3,A3,c3,rfl⟩:=jc.shape;obtain⟨n3',A3',c3',rfl⟩:=bx.shape;clear jc bx ab;go_wp2_with fail;go_ret3;exact⟨_,_,rfl,tX.o,pQ.o,aE.o⟩
def J6(xs:List Nat)(m n:Nat)(w:World)(e:Ending)(w':World):Prop:=
 ∃v' zs,e= .returned v'/\Arr w' v' zs/\val zs=val xs*m ^ n/\zs.length<=xs.length+n/\Ext w w'
def DI(w wr:World)(xs:List Nat)(m n k:Nat)(v:Value):Prop:=
 ∃zs,Arr wr v zs/\val zs*m ^ k=val xs*m ^ n/\zs.length+k<=xs.length+n/\Ext w wr
theorem DI.shape{w wr:World}{xs:List Nat}{m n k:Nat}{v:Value}(h:DI w wr xs m n k v):∃n A c,v= .slice A n c:=by
 obtain⟨zs,h1,_⟩:=h;exact h1.shape
theorem DI.step {w wr w':World} {xs zs:List Nat} {m n k j a:Nat} {v:Value} (hk:k=j+a) (ha:1<=a) (hv:val zs*m ^ k=val xs*m ^ n) (hl:zs.length+k<=xs.length+n) (hx:Ext w wr) (aA:Ok zs)
  (ho:Own wr.heap.size w' v (Ac (val zs*m ^ a+0))) (hm:m ^ a<4294967296) (hx':Ext wr w'):DI w w' xs m n j v:=by
 refine⟨_,ho.arr,?_,?_,hx.trans hx'⟩
 ·rw[Ad,qaN,qaA,<-qbE,qbM a j,<-hk,hv]
 ·have:=Du aA hm (c:=0) (by omega);omega
theorem Pz(w:World)(v:Value)(xs:List Nat)(n:Nat)(h:Arr w v xs)(hn:xs.length<=67108864)(bA:n<=67108864):
  Calls Tryz.prog 213 #[v,.int .u32 10,.int .i64 (n:Int)] w (J6 xs 10 n w):=by
 have HA:=J h;obtain⟨nv,Av,cv,rfl⟩:=h.shape;clear h;go_enter Tryz.func213,Tryz.ntmps213;go_wp2_with fail;go_loopw [0,2] (fun s0 s2 wr=>∃k:Nat,k<=n/\s2= .int .i64 (k:Int)/\DI w wr xs 10 n k s0) (fun _ s2 _=>(intOf s2).toNat)
 case atStart=>exact⟨n,qab _,rfl,xs,HA.o,rfl,qab _,Ext.refl _⟩
 case round=>
  obtain⟨k,hk,rfl,hat⟩:=hrel;obtain⟨ns,As,cs,rfl⟩:=hat.shape;have gy:=J hat;obtain⟨zs,ha,hv,hl,hx⟩:=hat;have mF:zs.length<=536870912:=by omega
  by_cases h9:9<=k
  ·obtain⟨j,rfl⟩:∃j,k=j+9:=⟨k-9,by omega⟩;have HP:=J (E5 wr _ zs 1000000000 0 ha mF (by decide) (by decide));rw[show ((1000000000:Nat):Int)=1000000000 from rfl,show ((0:Nat):Int)=0 from rfl]at HP;have bF:=J (fun w' v' ho hx'=>DI.step (w':=w') (v:=v') (j:=j) (a:=9) rfl (by omega) hv hl hx ha.ok ho (by decide) hx');rw[show (10:Nat) ^ 9=1000000000 from rfl]at bF;clear ha hv hl hx;go_wp2_with fail;refine HP.o.mono ?_
   rintro e w2 ⟨v2,rfl,de,ah⟩;have lM:=J (bF.o _ _ de ah);obtain⟨n2,A2,c2,rfl⟩:=de.shape;clear de ah;go_wp2_with fail;go_roundw
   case rel=>exact⟨j,by omega,by go_num,lM.o⟩
   case measure=>simp[intOf];omega
  ·clear ha hv hl hx mF;go_wp2_with fail;go_loopw [0,2] (fun s0 s2 wr=>∃k:Nat,k<=n/\s2= .int .i64 (k:Int)/\DI w wr xs 10 n k s0) (fun _ s2 _=>(intOf s2).toNat)
   case atStart=>exact⟨k,hk,rfl,gy.o⟩
   case round=>
    clear hk h9 gy;obtain⟨k,hk,rfl,hat⟩:=hrel;obtain⟨ns,As,cs,rfl⟩:=hat.shape;have gy:=J hat;obtain⟨zs,ha,hv,hl,hx⟩:=hat;have mF:zs.length<=536870912:=by omega
    rcases qag k with h0|h0
    ·subst h0;have HF:Hid (J6 xs 10 n w (.returned (.slice As ns cs)) wr):=J ⟨_,zs,rfl,ha,by rw[<-hv];simp,by omega,hx⟩;clear ha hv hl hx mF;go_wp2_with fail;go_ret;exact HF.o
    ·obtain⟨j,rfl⟩:∃j,k=j+1:=⟨k-1,by omega⟩;have HP:=J (E5 wr _ zs 10 0 ha mF (by decide) (by decide));rw[show ((10:Nat):Int)=10 from rfl,show ((0:Nat):Int)=0 from rfl]at HP;have bF:=J (fun w' v' ho hx'=>DI.step (w':=w') (v:=v') (j:=j) (a:=1) rfl (by omega) hv hl hx ha.ok ho (by decide) hx');rw[Nat.pow_one]at bF;clear ha hv hl hx;go_wp2_with fail;refine HP.o.mono ?_
     rintro e w2 ⟨v2,rfl,de,ah⟩;have lM:=J (bF.o _ _ de ah);obtain⟨n2,A2,c2,rfl⟩:=de.shape;clear de ah;go_wp2_with fail;go_roundw
     case rel=>exact⟨j,by omega,by go_num,lM.o⟩
     case measure=>simp[intOf]
theorem FD(w:World)(v u:Value)(z:Int)(ys:List Nat)(h:Ap w v z)(h':Arr w u ys)(hn:(Ac z.natAbs).length<=134217728)(bA:ys.length<=134217728)(hy:val ys≠0):
  Calls Tryz.prog 211 #[v,u] w fun e w'=>∃v',e= .returned v'/\Ag w.heap.size w' v' (EN z (val ys)) (Em z (val ys))/\Ext w w':=by
 have HA:=J h;have HB:=J h';obtain⟨b,n,A,c,rfl⟩:=h.shape;have HL:=J (fun W hx=>Of W (.slice A n c) u (Ac z.natAbs) ys (h.mag.ext hx) (h'.ext hx) hn bA hy);rw[Ad]at HL;have HI:=J (fun W m a=>Cj W b m (Ac (z.natAbs / Nat.gcd z.natAbs (val ys))) a (qae (Qn _ _) (by omega)));rw[Ad]at HI;have HS:=J h.sign;clear h h';go_enter Tryz.func211,Tryz.ntmps211;go_wp2_with fail;have hb0:=(Blk.new w 24 #[.bool b,.slice A n c]).alloc (.cells #[.bool false,.slice none 0 0,.slice none 0 0] 26);have am:=Blk.new (w.alloc (.cells #[.bool b,.slice A n c] 24)) 26 #[.bool false,.slice none 0 0,.slice none 0 0];have az:=((Ext.refl w).alloc (.cells #[.bool b,.slice A n c] 24)).alloc (.cells #[.bool false,.slice none 0 0,.slice none 0 0] 26);have aq:w.heap.size+1<((w.alloc (.cells #[.bool b,.slice A n c] 24)).alloc (.cells #[.bool false,.slice none 0 0,.slice none 0 0] 26)).heap.size:=by simp
 simp only[World.size_alloc]at am;generalize (w.alloc (.cells #[.bool b,.slice A n c] 24)).alloc (.cells #[.bool false,.slice none 0 0,.slice none 0 0] 26)=wo at *;refine(HL.o _ az).mono ?_
 rintro e w1 ⟨v1,u1,rfl,dM,ac,ak⟩;have mm:=hb0.ext ak;have fJ:=am.ext ak;have fN:=J dM;have qA:=J ac;obtain⟨n1,A1,c1,rfl⟩:=dM.shape;obtain⟨n2,A2,c2,rfl⟩:=ac.shape;obtain⟨h0,h1,_,_,_⟩:=mm.two;have nK:=J fJ;have au:=J (az.trans ak);have oY:=J ak.size;clear hb0 am ak dM ac mm fJ az;go_wp2_with fail;refine(HI.o _ _ fN.o.arr).mono ?_
 rintro e w2 ⟨v2,rfl,ay,ah⟩;have ic:=J ay;have hJ:=J (qA.o.ext ah);have fJ:=nK.o.ext ah;obtain⟨b3,n3,A3,c3,rfl⟩:=ay.shape;have k0:=fJ.three;have aR:=J (au.o.trans ah);have ft:=J fJ;clear ay ah fJ;go_wp2_with fail;obtain⟨ai,ac,hr2⟩:=Aj ft.o (.bool b3) (.slice A3 n3 c3) (.slice A2 n2 c2);refine bodyPost_ret (v:= .agg #[.bool b3,.slice A3 n3 c3,.slice A2 n2 c2]) (by simp[results,Tryz.results211,go_sem,ai,ac,hr2]) rfl ?_
 have dQ:Ag wo.heap.size w2 (.agg #[.bool b3,.slice A3 n3 c3,.slice A2 n2 c2]) (EN z (val ys)) (Em z (val ys)):=Ag.mk (by
  have h1:=ic.o.mono oY.o;rw[HS.o]at h1;exact h1) hJ.o
 exact⟨_,rfl,dQ.put aq (by omega),((aR.o.setCell (qak _) _).setCell (qak _) _).setCell (qak _) _⟩
theorem LC(w:World)(l:List UInt8)(h:20001<l.length):
  Calls Tryz.prog 209 #[str l] w fun e w'=>e= .returned (.tuple #[.slice none 0 0,.int .i64 7])/\w=w':=by
 have h':(20001:Int)<(l.length:Int):=by omega
 clear h;go_enter Tryz.func209,Tryz.ntmps209;go_wp2_with fail;go_ret2;exact⟨rfl,rfl⟩
theorem Kk(w:World):
  Calls Tryz.prog 209 #[str []] w fun e w'=>e= .returned (.tuple #[.slice none 0 0,.int .i64 6])/\w=w':=by
 go_enter Tryz.func209,Tryz.ntmps209;go_wp2_with fail;go_ret2;exact⟨rfl,rfl⟩
theorem LA(w:World)(l:List UInt8)(h0:Af l 0=48)(h1:1<l.length)(h:l.length<=20001):
  Calls Tryz.prog 209 #[str l] w fun e w'=>e= .returned (.tuple #[.slice none 0 0,.int .i64 6])/\w=w':=by
 have YG:((Af l 0:Int) == 48)=true:=by rw[h0];rfl
 have cH:¬(20001:Int)<(l.length:Int):=by omega
 have hne:(l == [])=false:=by cases l<;>simp_all
 clear h h0;go_enter Tryz.func209,Tryz.ntmps209;go_wp2_with fail;go_ret2;exact⟨rfl,rfl⟩
def Vc(w0 wr:World)(out:Value)(l:List UInt8)(k j c:Nat):Prop:=
 ∃a:Nat,Own w0.heap.size wr out (Ac a)/\Bo (l.take k)=a*10 ^ j+c/\a<10 ^ k/\Ext w0 wr
def LT(w0:World)(r:Nat × Nat)(e:Ending)(w':World):Prop:=
 ∃v':Value,e= .returned (.tuple #[v',.int .i64 (r.2:Int)])/\Own w0.heap.size w' v' (Ac r.1)/\Ext w0 w'
theorem LB(w:World)(l:List UInt8)(hne:l≠[])(hz:¬(Af l 0=48/\1<l.length))(h:l.length<=20001)(r:Nat × Nat)(ac:l.all BA=true->r=(Bo l,0))(hr2:l.all BA=false->r=(0,6)):
  Calls Tryz.prog 209 #[str l] w (LT w r):=by
 have qA:=J ac;have hJ:=J hr2;clear ac hr2;have cH:¬(20001:Int)<(l.length:Int):=by omega
 have hne':(l == [])=false:=by cases l<;>simp_all
 have gW:0<l.length:=by cases l<;>simp_all
 have wF:((Af l 0:Int) == 48)=false\/(((Af l 0:Int) == 48)=true/\¬(1:Int)<(l.length:Int)):=by
  by_cases h0:Af l 0=48
  ·exact .inr ⟨by rw[h0];rfl,by omega⟩
  ·exact .inl (by rw[beq_eq_false_iff_ne];omega)
 have HL:=J h;clear h hne hz;rcases wF with YG|⟨YG,h11⟩
 all_goals
  go_enter Tryz.func209,Tryz.ntmps209;go_wp2_with fail;go_loopw [4,5,6,25] (fun out cv sv i wr=>∃k j c:Nat,k<=l.length/\j<=8/\c<10 ^ j/\(k=l.length->j=0)/\i= .int .i64 k/\cv= .int .u32 c/\sv= .int .u32 ((10 ^ j:Nat):Int)/\(l.take k).all BA=true/\Vc w wr out l k j c) (fun _ _ _ i _=>l.length-(intOf i).toNat)
  case atStart=>exact⟨0,0,0,by omega,by omega,by omega,fun _=>rfl,rfl,rfl,rfl,rfl,0,Own.none_ _ _,rfl,by omega,Ext.refl _⟩
  case round=>
   obtain⟨k,j,c,hk,hj,hc,qY,rfl,rfl,rfl,hall,hN⟩:=hrel;by_cases hlt:k<l.length
   ·have hb:=CR l k;have iP:=BG l k hlt;have hdig:=Qu l[k];rw[<-iP]at hdig;have mJ:=Rd l k hlt;have dI:=JE l k hlt;rw[<-iP]at dI;rw[hall,qaE]at mJ;have HAF:=J (fun hf=>LP hlt hf);have kT:=J hdig;have nE:=J mJ;have lP:=J dI;clear iP hdig mJ dI;obtain⟨b,dR⟩:∃b,Af l k=b:=⟨_,rfl⟩;have Zx:=J dR;rw[dR]at kT lP hb;have HC10:=J hc;by_cases hd:48<=b/\b<=57
    ·have rn:=J (nE.o.trans (kT.o.2 hd));obtain⟨a,al,eo,yi,ae⟩:=hN;have hP8:=Kf hj;have V0:=Pk hj;have gz:=J hall;have Xr:=J yi;have qW:=Km yi;have jE:=J (MM (d:=b-48) eo);have fp:=J eo;clear hall yi eo qY;have yA:=J (show 10 ^ (j+1)=10*10 ^ j by rw[qay,qaJ]);obtain⟨P,hP⟩:∃P,10 ^ j=P:=⟨_,rfl⟩;rw[hP]at hc hP8 V0 jE fp yA ⊢;have HP:=J hP;clear hP;have hw10:IntKind.u32.wrap (10*(c:Int))=((10*c:Nat):Int):=by rw[IntWalk.u32_in _ (by omega)];omega
     obtain⟨dJ,eH⟩:=hd;have e1:(10*(c:Int)+((b:Int)-48))=((10*c+(b-48):Nat):Int):=by omega
     have e2:(P:Int)*10=((P*10:Nat):Int):=by omega
     have E1:=J e1;have E2:=J e2;clear e1 e2;by_cases hflush:j=8\/k+1=l.length
     ·have mo:((P:Int)*10 == 1000000000)=true\/(((P:Int)*10 == 1000000000)=false/\((k:Int) == (l.length:Int)-1)=true):=by
       by_cases h8:P*10=1000000000
       ·exact .inl (by rw[beq_iff_eq];omega)
       ·exact .inr ⟨by rw[beq_eq_false_iff_ne];omega,by rw[beq_iff_eq];omega⟩
      have uR:=J (E5 wr _ (Ac a) (P*10) (10*c+(b-48)) al.arr (by omega) (by omega) (by omega));clear V0;have HK:=J hflush;clear hflush;have vK:Bo (l.take (k+1))=a*(P*10)+(10*c+(b-48)):=by rw[lP.o,jE.o,qaJ P 10]
      have kC:=Ii rn.o (show k+1<=l.length by omega);have qC:=J vK;have rt:=J kC;clear vK kC;rcases mo with mo|⟨Vx,Vw⟩
      all_goals
       go_wp2_with fail;rw[E1.o,E2.o];refine uR.o.mono ?_
       rintro e w1 ⟨v1,rfl,dM,ak⟩;rw[Ad,<-qC.o]at dM;go_wp2_with fail;go_roundw
       case rel=>exact⟨k+1,0,0,by omega,by omega,by omega,fun _=>rfl,by go_num,rfl,rfl,rn.o,_,dM.mono ae.size,by simp,rt.o,ae.trans ak⟩
       case measure=>simp[intOf];omega
     ·have Vx:((P:Int)*10 == 1000000000)=false:=by rw[beq_eq_false_iff_ne];omega
      have Vw:((k:Int) == (l.length:Int)-1)=false:=by rw[beq_eq_false_iff_ne];omega
      have kC:=Ii rn.o (show k+1<=l.length by omega);have rt:=J kC;have wO:a<10 ^ (k+1):=qan Xr.o (qbe (by omega) (by omega));have Xp:=J wO;have Zl:=J hflush;clear V0 kC wO hflush;go_wp2_with fail;go_roundw
      case rel=>
       refine⟨k+1,j+1,10*c+(b-48),by omega,by have:=Zl.o;omega,by rw[yA.o];omega,fun he=>absurd (Or.inr he) Zl.o,by go_num,by rw[E1.o],?_,rn.o,a,al,by rw[lP.o,jE.o,yA.o],Xp.o,ae⟩;rw[yA.o,qaJ 10 P,E2.o]
      case measure=>simp[intOf];omega
    ·have wK:BA l[k]=false:=by
      rw[<-Bool.not_eq_true];exact fun ht=>hd (kT.o.1 ht)
     have aF:=J (HAF.o wK);obtain⟨a,al,vH,VU,ae⟩:=hN;clear vH VU al;have iF:b<48\/57<b:=by omega
     clear wK hc qY hall hd hj hk;generalize 10 ^ j=P at *;rcases iF with fS|fS
     all_goals
      go_wp2_with fail;go_ret2;rw[hJ.o aF.o];exact⟨_,rfl,Own.none_ _ _,ae⟩
   ·obtain rfl:k=l.length:=by omega
    obtain⟨a,al,eo,_,ae⟩:=hN;have uE:=qY rfl;subst uE;rw[qaf (qab _)]at eo hall;have hc0:c=0:=by simpa using hc
    subst hc0;have ld:Bo l=a:=by simpa using eo
    have pe:=J ld;have gz:=J hall;clear eo ld hall hc qY;go_wp2_with fail;go_ret2;rw[qA.o gz.o,pe.o];exact⟨_,rfl,al,ae⟩
theorem My(w:World)(l:List UInt8):Calls Tryz.prog 209 #[str l] w (LT w (I3 l)):=by
 unfold I3;by_cases h1:20001<l.length
 ·rw[if_pos h1];refine(LC w l h1).mono ?_
  rintro e w' ⟨rfl,rfl⟩;exact⟨_,rfl,Own.none_ _ _,Ext.refl _⟩
 ·rw[if_neg h1];by_cases h2:l=[]
  ·subst h2;rw[if_pos rfl];refine(Kk w).mono ?_
   rintro e w' ⟨rfl,rfl⟩;exact⟨_,rfl,Own.none_ _ _,Ext.refl _⟩
  ·rw[if_neg h2];have gW:0<l.length:=by cases l<;>simp_all
   have hb:Af l 0=48↔l[0]? =some 48:=by
    rw[BG l 0 gW,qad gW];constructor
    ·intro h;exact congrArg some (qcA.1 h)
    ·intro h;injection h with h;rw[h];rfl
   by_cases h3:l[0]? =some 48/\1<l.length
   ·rw[if_pos h3];refine(LA w l (hb.2 h3.1) h3.2 (by omega)).mono ?_
    rintro e w' ⟨rfl,rfl⟩;exact⟨_,rfl,Own.none_ _ _,Ext.refl _⟩
   ·rw[if_neg h3];exact LB w l h2 (fun h=>h3 ⟨hb.1 h.1,h.2⟩) (by omega) _ (fun h=>if_pos h) (fun h=>if_neg (by rw[h];decide))
theorem Mm(w:World)(l:List UInt8)(h:400<l.length):Calls Tryz.prog 182 #[str l] w (D7 w l):=by
 have hc:Bh l=7:=if_pos h;have h':(400:Int)<(l.length:Int):=by omega
 have HC:=J hc;clear h hc;go_enter Tryz.func182,Tryz.ntmps182;go_wp2_with fail;obtain⟨ai,ac,hr2⟩:=Aj (Blk.new w 26 #[.bool false,.slice none 0 0,.slice none 0 0]) (.bool false) (.slice none 0 0) (.slice none 0 0);refine bodyPost_ret (v:= .tuple #[.agg #[.bool false,.slice none 0 0,.slice none 0 0],.int .i64 7]) (by simp[results,Tryz.results182,go_sem]) rfl ?_
 exact⟨_,by rw[HC.o];rfl,by rw[HC.o];exact Ag.zero _ _,(Ext.refl w).alloc _⟩
theorem Gi(w:World)(l:List UInt8)(hm:B5 w):Calls Tryz.prog 182 #[str l] w (D7 w l):=by
 rcases qah 400 l.length with hl|hl
 ·exact Mm w l hl
 have ui:=J (fun W hx=>T3 W l (by omega) (hm.ext hx));have hpl:(Bb l).length<=l.length:=by
  rcases Ck l with ⟨_,h1⟩|⟨_,_,h2⟩
  ·have:=congrArg List.length h1;simp at this;omega
  ·rw[h2];simp
 have np:=Gz l;have ph:=J (ET (l:=l));have uc:=J (FN (l:=l));have fc:Bh l=if Ic l then 6 else if (whole l++Bb l).all BA then 0 else 6:=by
  unfold Bh CO;rw[if_neg (by omega)];cases Ic l<;>cases (whole l++Bb l).all BA<;>rfl
 have mA:=J fc;have eo:HJ l=EN (Bo (whole l++Bb l)) (10 ^ (Bb l).length):=rfl;have wE:Ia l=Em (Bo (whole l++Bb l)) (10 ^ (Bb l).length):=rfl;have fp:=J eo;have lZ:=J wE;have wW:¬(400:Int)<(l.length:Int):=by omega
 clear hm fc eo wE;generalize whole l=W at *;generalize Bb l=P at *;generalize AE l=D at *;generalize Ic l=bad at *;go_enter Tryz.func182,Tryz.ntmps182;go_wp2_with fail;refine(ui.o _ ((Ext.refl w).alloc _)).mono ?_
 rintro e w1 ⟨rfl,ak⟩;have au:=J (((Ext.refl w).alloc (.cells #[.bool false,.slice none 0 0,.slice none 0 0] 26)).trans ak);have ag:=J ((Blk.new w 26 #[.bool false,.slice none 0 0,.slice none 0 0]).ext ak);clear ak;go_upto_region 4 with fail
 go_cut [46] from 20 to 46 (fun s46 wx=>s46= .bool bad/\wx=w1)
 case first=>
  clear ui;cases D
  ·have HF:Hid ((false && ((P == []) || (P.getLast? == some 48)))=false):=J rfl;have aj:=J (ph.o HF.o);rcases qag W.length with dE|dE
   ·obtain rfl:W=[]:=qap dE;have gQ:Hid (bad=true):=J (by rw[aj.o];rfl);have p8:(([]:List UInt8) == [])=true:=rfl;clear dE;go_wp2_with fail;go_meet;exact⟨by rw[gQ.o],rfl⟩
   ·have p8:(W == [])=false:=by cases W<;>simp_all
    obtain⟨kw,np⟩:∃k,W.length=k+1:=⟨W.length-1,by omega⟩;have zh:(0:Int)<(W.length:Int):=by omega
    have oC:=Gq W kw np;rw[oC,p8]at aj;clear dE oC;cases hz:((Af W 0:Int) == 48)
    ·have gQ:Hid (bad=false):=J (by rw[aj.o,hz];rfl);clear np;go_wp2_with fail;go_meet;exact⟨by rw[gQ.o],rfl⟩
    ·by_cases hl1:1<W.length
     ·have gQ:Hid (bad=true):=J (by rw[aj.o,hz];simp[hl1]);have dJ:(1:Int)<(W.length:Int):=by omega
      have eH:decide ((1:Int)<(W.length:Int))=true:=by rw[decide_eq_true_iff];omega
      clear np;go_wp2_with fail;go_meet;exact⟨by rw[gQ.o],rfl⟩
     ·have gQ:Hid (bad=false):=J (by rw[aj.o,hz];simp[hl1]);have dJ:¬(1:Int)<(W.length:Int):=by omega
      have eH:decide ((1:Int)<(W.length:Int))=false:=by simp;omega
      clear np;go_wp2_with fail;go_meet;exact⟨by rw[gQ.o],rfl⟩
  ·rcases qag P.length with hp0|hp0
   ·obtain rfl:P=[]:=qap hp0;have gQ:Hid (bad=true):=J (uc.o rfl);have si:(([]:List UInt8) == [])=true:=rfl;clear hp0;go_wp2_with fail;go_meet;exact⟨by rw[gQ.o],rfl⟩
   ·have si:(P == [])=false:=by cases P<;>simp_all
    obtain⟨k,sh⟩:∃k,P.length=k+1:=⟨P.length-1,by omega⟩;have kF:=KX P k sh;have ob:(P.length:Int)-1=(k:Int):=by omega
    clear hp0;have hkp:(k:Int)<(P.length:Int):=by omega
    cases hz1:((Af P k:Int) == 48)
    ·have HF:Hid ((true && ((P == []) || (P.getLast? == some 48)))=false):=J (by rw[kF,si,hz1];rfl);clear kF sh;have aj:=J (ph.o HF.o);rcases qag W.length with dE|dE
     ·obtain rfl:W=[]:=qap dE;have gQ:Hid (bad=true):=J (by rw[aj.o];rfl);have p8:(([]:List UInt8) == [])=true:=rfl;clear dE;go_wp2_with fail;go_meet;exact⟨by rw[gQ.o],rfl⟩
     ·have p8:(W == [])=false:=by cases W<;>simp_all
      obtain⟨kw,np⟩:∃k,W.length=k+1:=⟨W.length-1,by omega⟩;have zh:(0:Int)<(W.length:Int):=by omega
      have oC:=Gq W kw np;rw[oC,p8]at aj;clear dE oC;cases hz:((Af W 0:Int) == 48)
      ·have gQ:Hid (bad=false):=J (by rw[aj.o,hz];rfl);clear np;go_wp2_with fail;go_meet;exact⟨by rw[gQ.o],rfl⟩
      ·by_cases hl1:1<W.length
       ·have gQ:Hid (bad=true):=J (by rw[aj.o,hz];simp[hl1]);have dJ:(1:Int)<(W.length:Int):=by omega
        have eH:decide ((1:Int)<(W.length:Int))=true:=by rw[decide_eq_true_iff];omega
        clear np;go_wp2_with fail;go_meet;exact⟨by rw[gQ.o],rfl⟩
       ·have gQ:Hid (bad=false):=J (by rw[aj.o,hz];simp[hl1]);have dJ:¬(1:Int)<(W.length:Int):=by omega
        have eH:decide ((1:Int)<(W.length:Int))=false:=by simp;omega
        clear np;go_wp2_with fail;go_meet;exact⟨by rw[gQ.o],rfl⟩
    ·have gQ:Hid (bad=true):=J (uc.o (by rw[kF,hz1];simp));clear kF sh;go_wp2_with fail;go_meet;exact⟨by rw[gQ.o],rfl⟩
 case rest=>
  obtain⟨rfl,rfl⟩:=hcut;clear ph uc ui;have k0:=ag.o.three;cases bad
  ·have fc:=mA.o;simp only[qbk,if_false]at fc;have wP:∀W',(binOp .add 9 (str W) (str P)).run Tryz.prog W'= .ok (str (W++P)) W':=Im W P (by omega);have hL:(W++P).length<=800:=by rw[qac];omega
   have rm:=J (fun W'=>Pg W' (W++P));have pd:=J (fun W'=>My W' (K6 (W++P)));rw[Kn _ hL]at pd;have HTD:=J (fun W'=>Pi W' (W++P) (by omega));have HNL:=J (GP (W++P));have hdig:K6 (W++P)=if (W++P).dropWhile (· == 48)=[] then [48] else (W++P).dropWhile (· == 48):=rfl
   have kT:=J hdig;clear hdig mA;generalize W++P=L at *;generalize hZ:L.dropWhile (· == 48)=Z at *;have HZ:=J hZ;clear hZ;cases hall:L.all BA
   ·have pe:Hid (∀W',Calls Tryz.prog 209 #[str (K6 L)] W' (LT W' (0,6))):=J (fun W'=>by
     have:=pd.o W'
     rwa [hall]at this)
    rw[hall]at fc;have HC:Hid (Bh l=6):=J fc;clear hall fc pd;rcases qag Z.length with aD|aD
    ·obtain rfl:Z=[]:=qap aD;have pY:(([]:List UInt8) == [])=true:=rfl;rw[kT.o,if_pos rfl]at pe;clear aD;go_wp2_with fail;refine(rm.o _).mono ?_
     rintro e w2 ⟨rfl,rfl⟩;go_wp2_with fail;refine(pe.o _).mono ?_
     rintro e w3 ⟨v3,rfl,jc,ab⟩;obtain⟨n3,A3,c3,rfl⟩:=jc.shape;have hk:=ag.o.ext ab;have aE:=J (au.o.trans ab);have be:=J hk;clear jc ab k0;have k0:=hk.three;clear hk;go_wp2_with fail;obtain⟨ai,ac,hr2⟩:=Aj be.o (.bool false) (.slice none 0 0) (.slice none 0 0);refine bodyPost_ret (v:= .tuple #[.agg #[.bool false,.slice none 0 0,.slice none 0 0],.int .i64 6]) (by simp[results,Tryz.results182,go_sem,ai,ac,hr2]) rfl ?_
     exact⟨_,by rw[HC.o];rfl,by rw[HC.o];exact Ag.zero _ _,((aE.o.setCell (qab _) _).setCell (qab _) _).setCell (qab _) _⟩
    ·have pY:(Z == [])=false:=by cases Z<;>simp_all
     have uZ:Z≠[]:=by cases Z<;>simp_all
     rw[kT.o,if_neg uZ]at pe;clear aD uZ;go_wp2_with fail;refine(rm.o _).mono ?_
     rintro e w2 ⟨rfl,rfl⟩;go_wp2_with fail;refine(pe.o _).mono ?_
     rintro e w3 ⟨v3,rfl,jc,ab⟩;obtain⟨n3,A3,c3,rfl⟩:=jc.shape;have hk:=ag.o.ext ab;have aE:=J (au.o.trans ab);have be:=J hk;clear jc ab k0;have k0:=hk.three;clear hk;go_wp2_with fail;obtain⟨ai,ac,hr2⟩:=Aj be.o (.bool false) (.slice none 0 0) (.slice none 0 0);refine bodyPost_ret (v:= .tuple #[.agg #[.bool false,.slice none 0 0,.slice none 0 0],.int .i64 6]) (by simp[results,Tryz.results182,go_sem,ai,ac,hr2]) rfl ?_
     exact⟨_,by rw[HC.o];rfl,by rw[HC.o];exact Ag.zero _ _,((aE.o.setCell (qab _) _).setCell (qab _) _).setCell (qab _) _⟩
   ·have pe:Hid (∀W',Calls Tryz.prog 209 #[str (K6 L)] W' (LT W' (Bo L,0))):=J (fun W'=>by
     have:=pd.o W'
     rwa [hall]at this)
    rw[hall]at fc;have HC:Hid (Bh l=0):=J fc;have xo:=J (fun W'=>HTD.o W' hall);have qe:(Ac (Bo L)).length<=800:=D5 (HNL.o hall) hL;have ry:=J (fun W' m a=>Cj W' false m (Ac (Bo L)) a (by omega));rw[Ad]at ry;have hsg:sgn false (Bo L)=((Bo L:Nat):Int):=rfl;rw[hsg]at ry;have dG:=J (fun W'=>Gk W' 1 (by decide));rw[show ((1:Nat):Int)=1 from rfl]at dG;have sf:P.length<=400:=by omega
    have gL:=J (fun W' m a=>Pz W' m (Ac 1) P.length a (by decide) (by omega));have Zo:Hid ((Ac 1).length<=10/\P.length<=400):=J ⟨by decide,sf⟩;have fq:Hid (∀W' a b zs,Ap W' a ((Bo L:Nat):Int)->Arr W' b zs->zs.length<=134217728->val zs=val (Ac 1)*10 ^ P.length->Calls Tryz.prog 211 #[a,b] W' fun e w'=>∃v',e= .returned v'/\Ag W'.heap.size w' v' (EN ((Bo L:Nat):Int) (10 ^ P.length)) (Em ((Bo L:Nat):Int) (10 ^ P.length))/\Ext W' w'):=J (fun W' a b zs h1 h2 h3 h4=>by
     have:=FD W' a b _ zs h1 h2 (by rw[qaL];omega) h3 (by rw[h4,Ad,qbo];exact Nat.ne_of_gt (qbb (by decide)))
     rwa [h4,Ad,qbo]at this)
    clear hall fc pd qe hsg sf;rcases qag Z.length with aD|aD
    ·obtain rfl:Z=[]:=qap aD;have pY:(([]:List UInt8) == [])=true:=rfl;rw[kT.o,if_pos rfl]at pe;clear aD;go_wp2_with fail;refine(rm.o _).mono ?_
     rintro e w2 ⟨rfl,rfl⟩;go_wp2_with fail;refine(pe.o _).mono ?_
     rintro e w3 ⟨v3,rfl,jc,ab⟩;have pQ:=J jc;obtain⟨n3,A3,c3,rfl⟩:=jc.shape;have aE:=J (au.o.trans ab);have be:=J (ag.o.ext ab);clear jc ab k0;go_wp2_with fail;refine(xo.o _).mono ?_
     rintro e w4 ⟨rfl,bf⟩;have m8:=J (pQ.o.ext bf);have bE:=J (aE.o.trans bf);have ig:=J (be.o.ext bf);clear bf;have cH:(([]:List UInt8) == [])=true:=rfl;go_wp2_with fail;refine(ry.o _ _ m8.o.arr).mono ?_
     rintro e w5 ⟨v5,rfl,dO,hx5⟩;have xE:=J dO;obtain⟨b5,n5,A5,c5,rfl⟩:=dO.shape;have dn:=J (bE.o.trans hx5);have iZ:=J (ig.o.ext hx5);clear dO hx5;go_wp2_with fail;refine(dG.o _).mono ?_
     rintro e w6 ⟨v6,rfl,fy,dd⟩;have hU:=J fy;obtain⟨n6,A6,c6,rfl⟩:=fy.shape;have xD:=J (xE.o.ext dd);have dD:=J (dn.o.trans dd);have mD:=J (iZ.o.ext dd);clear fy dd;go_wp2_with fail;refine(gL.o _ _ hU.o.arr).mono ?_
     rintro e w7 ⟨v7,zs,rfl,tc,rX,zX,bH⟩;obtain⟨n7,A7,c7,rfl⟩:=tc.shape;have W8:=J (xD.o.ext bH).arr;have db:=J (dD.o.trans bH);have fV:=J (mD.o.ext bH);have HV7:=J rX;have ng:=J (fq.o w7 _ _ zs W8.o tc (by have:=Zo.o;omega) rX);clear tc rX bH zX;go_wp2_with fail;refine ng.o.mono ?_
     rintro e w8 ⟨v8,rfl,cO,bJ⟩;obtain⟨b8,n8,A8,c8,qM,rB,rj,rfl⟩:=cO.shape;have tR:=J cO;have dF:=J (db.o.trans bJ);have hk:=fV.o.ext bJ;have mC:=J hk;have oX:=J db.o.size;have pi:=J fV.o.lt;clear cO bJ;have k0:=hk.three;clear hk;go_wp2_with fail;obtain⟨ai,ac,hr2⟩:=Aj mC.o (.bool b8) (.slice A8 n8 c8) (.slice rB qM rj);refine bodyPost_ret (v:= .tuple #[.agg #[.bool b8,.slice A8 n8 c8,.slice rB qM rj],.int .i64 0]) (by simp[results,Tryz.results182,go_sem,ai,ac,hr2]) rfl ?_
     have dQ:=tR.o.put (w:=w) pi.o oX.o;exact⟨_,by rw[HC.o];rfl,by rw[HC.o,if_pos rfl,if_pos rfl,fp.o,lZ.o];exact dQ,((dF.o.setCell (qab _) _).setCell (qab _) _).setCell (qab _) _⟩
    ·have pY:(Z == [])=false:=by cases Z<;>simp_all
     have uZ:Z≠[]:=by cases Z<;>simp_all
     rw[kT.o,if_neg uZ]at pe;clear aD uZ;go_wp2_with fail;refine(rm.o _).mono ?_
     rintro e w2 ⟨rfl,rfl⟩;go_wp2_with fail;refine(pe.o _).mono ?_
     rintro e w3 ⟨v3,rfl,jc,ab⟩;have pQ:=J jc;obtain⟨n3,A3,c3,rfl⟩:=jc.shape;have aE:=J (au.o.trans ab);have be:=J (ag.o.ext ab);clear jc ab k0;go_wp2_with fail;refine(xo.o _).mono ?_
     rintro e w4 ⟨rfl,bf⟩;have m8:=J (pQ.o.ext bf);have bE:=J (aE.o.trans bf);have ig:=J (be.o.ext bf);clear bf;have cH:(([]:List UInt8) == [])=true:=rfl;go_wp2_with fail;refine(ry.o _ _ m8.o.arr).mono ?_
     rintro e w5 ⟨v5,rfl,dO,hx5⟩;have xE:=J dO;obtain⟨b5,n5,A5,c5,rfl⟩:=dO.shape;have dn:=J (bE.o.trans hx5);have iZ:=J (ig.o.ext hx5);clear dO hx5;go_wp2_with fail;refine(dG.o _).mono ?_
     rintro e w6 ⟨v6,rfl,fy,dd⟩;have hU:=J fy;obtain⟨n6,A6,c6,rfl⟩:=fy.shape;have xD:=J (xE.o.ext dd);have dD:=J (dn.o.trans dd);have mD:=J (iZ.o.ext dd);clear fy dd;go_wp2_with fail;refine(gL.o _ _ hU.o.arr).mono ?_
     rintro e w7 ⟨v7,zs,rfl,tc,rX,zX,bH⟩;obtain⟨n7,A7,c7,rfl⟩:=tc.shape;have W8:=J (xD.o.ext bH).arr;have db:=J (dD.o.trans bH);have fV:=J (mD.o.ext bH);have HV7:=J rX;have ng:=J (fq.o w7 _ _ zs W8.o tc (by have:=Zo.o;omega) rX);clear tc rX bH zX;go_wp2_with fail;refine ng.o.mono ?_
     rintro e w8 ⟨v8,rfl,cO,bJ⟩;obtain⟨b8,n8,A8,c8,qM,rB,rj,rfl⟩:=cO.shape;have tR:=J cO;have dF:=J (db.o.trans bJ);have hk:=fV.o.ext bJ;have mC:=J hk;have oX:=J db.o.size;have pi:=J fV.o.lt;clear cO bJ;have k0:=hk.three;clear hk;go_wp2_with fail;obtain⟨ai,ac,hr2⟩:=Aj mC.o (.bool b8) (.slice A8 n8 c8) (.slice rB qM rj);refine bodyPost_ret (v:= .tuple #[.agg #[.bool b8,.slice A8 n8 c8,.slice rB qM rj],.int .i64 0]) (by simp[results,Tryz.results182,go_sem,ai,ac,hr2]) rfl ?_
     have dQ:=tR.o.put (w:=w) pi.o oX.o;exact⟨_,by rw[HC.o];rfl,by rw[HC.o,if_pos rfl,if_pos rfl,fp.o,lZ.o];exact dQ,((dF.o.setCell (qab _) _).setCell (qab _) _).setCell (qab _) _⟩
  ·have HC:Hid (Bh l=6):=J mA.o;clear mA;go_wp2_with fail;obtain⟨ai,ac,hr2⟩:=Aj ag.o (.bool false) (.slice none 0 0) (.slice none 0 0);refine bodyPost_ret (v:= .tuple #[.agg #[.bool false,.slice none 0 0,.slice none 0 0],.int .i64 6]) (by simp[results,Tryz.results182,go_sem,ai,ac,hr2]) rfl ?_
   exact⟨_,by rw[HC.o];rfl,by rw[HC.o];exact Ag.zero _ _,((au.o.setCell (qab _) _).setCell (qab _) _).setCell (qab _) _⟩
end Big
end Go.Proofs.YtkoaogkknnelaaaGreatDoor
