import Derived.Test.YtkoaogkknnelaaaGreatDoorM12
set_option linter.unusedVariables false
set_option linter.unusedSimpArgs false
namespace Go.Proofs.YtkoaogkknnelaaaGreatDoor
namespace Big
open Lib (hid)
open Go.RowKit
def OH(w0 wr:World)(out:Value)(N q k r:Nat):Prop:=
 ∃bs:List UInt8,Hb w0.heap.size wr out bs/\low N=bs++low (q*10 ^ (9-k)+r)/\r<10 ^ (9-k)/\Ext w0 wr
theorem OH.step {w0 wk:World} {sI:Value} {N q k r:Nat} {bs:List UInt8} (hl:low N=bs++low (q*10 ^ (9-k)+r)) (hr:r<10 ^ (9-k)) (hk:k<9) (h0:q≠0\/r≠0)
  (ho:Hb w0.heap.size wk sI (bs++[UInt8.ofNat (48+r % 10)])) (he:Ext w0 wk):OH w0 wk sI N q (k+1) (r / 10):=by
 obtain⟨h1,h2⟩:=PN q r k hk hr h0;exact⟨_,ho,by rw[hl,h1,List.append_assoc];rfl,h2,he⟩
theorem OH.done{w0 wr:World}{out:Value}{N q k r:Nat}(h:OH w0 wr out N q k r)(hk:k=9\/q=0/\r=0):∃bs,Hb w0.heap.size wr out bs/\low N=bs++low q/\Ext w0 wr:=by
 obtain⟨bs,h1,h2,h3,h4⟩:=h;refine⟨bs,h1,?_,h4⟩;rcases hk with rfl|⟨rfl,rfl⟩
 ·rw[h2,P4 q r h3]
 ·rw[h2,Nat.zero_mul]
theorem Sz(w:World)(v u:Value)(xs ys:List Nat)(h:Arr w v xs)(h':Arr w u ys)(hn:xs.length<=1073741824)(bh:ys.length<=1073741824)(hlt:val xs<val ys):
  Calls Tryz.prog 259 #[v,u] w fun e w'=>e= .returned (.tuple #[.slice none 0 0,.bool false])/\w=w':=by
 have HC:=DJ w v u xs ys h h' hn bh;rw[EO hlt]at HC;have HC:=hid HC;clear h h' hlt;go_enter Tryz.func259,Tryz.ntmps259;go_wp2_with fail;refine HC.out.mono ?_;rintro e w' ⟨rfl,rfl⟩
 go_wp2_with fail;go_ret2;exact⟨rfl,rfl⟩
theorem SA(w:World)(v u:Value)(xs ys:List Nat)(h:Arr w v xs)(h':Arr w u ys)(hn:xs.length<=536870912)(bh:ys.length<=1073741824)(cx:val ys<=val xs):
  Calls Tryz.prog 259 #[v,u] w fun e w'=>∃v',e= .returned (.tuple #[v',.bool true])/\Own w.heap.size w' v' (Ac (val xs-val ys))/\Ext w w':=by
 have HC:=hid (DJ w v u xs ys h h' (by omega) bh);have HA:=hid h;have HB:=hid h';obtain⟨ax,A,c,rfl,hc,hm,aa⟩:=h.open;obtain⟨bE,A',c',rfl,jc,kY,an⟩:=h'.open;have fq:¬BQ (val xs) (val ys)<0:=by rw[DQ];omega
 have gH:=hid cx;clear h h' aa an hm kY hc jc cx;generalize BQ (val xs) (val ys)=cc at HC fq;go_enter Tryz.func259,Tryz.ntmps259;go_wp2_with fail;refine HC.out.mono ?_;rintro e w' ⟨rfl,rfl⟩
 go_wp2_with fail;go_loopw [6,7,8] (fun out cy i wr=>∃(k q:Nat) (zs:List Nat),k<=xs.length/\q<=1/\i= .int .i64 k/\cy= .int .u64 q/\zs.length=k/\
   val (xs.take k)+4294967296 ^ k*q=val zs+val (ys.take k)/\Own w.heap.size wr out zs/\Ext w wr) (fun _ _ i _=>xs.length-(intOf i).toNat)
 case atStart=>exact⟨0,0,[],Nat.zero_le _,by omega,rfl,rfl,rfl,by simp[val],Own.none_ _ _,Ext.refl w⟩
 case round=>
  obtain⟨k,q,zs,hk,hq,rfl,rfl,hl,hv,ai,ad⟩:=hrel;have HV:=hid hv;clear hv;have HL:=hid hl;clear hl;have sb:=ad.size;by_cases hlt:k<xs.length
  ·have HX:=hid (DZ wr _ xs (k:Int) (HA.out.ext ad) (by omega));have HY:=hid (DZ wr _ ys (k:Int) (HB.out.ext ad) (by omega));rw[Int.toNat_natCast]at HX HY;have cK:=ax.get k;have fi:=bE.get k;have HS:=hid (fun z c' h=> @Lr xs ys zs k q z c' HL.out HV.out h);obtain⟨x,b7⟩:∃x,xs.getD k 0=x:=⟨_,rfl⟩;obtain⟨y,dC⟩:∃y,ys.getD k 0=y:=⟨_,rfl⟩;rw[b7]at HX HS cK;rw[dC]at HY HS fi;clear b7 dC;have d9:=hid (show ∀z:Nat,zs.length+[z].length<=2147483648 from fun z=>by simp[HL.out];omega);by_cases hb:x<y+q
   ·obtain⟨z,hz,kQ⟩:∃z,x+4294967296*1=z+y+q/\z<4294967296:=⟨x+4294967296-(y+q),by omega,by omega⟩;have HZ:=hid hz;clear hz;go_wp2_with fail;refine HX.out.mono ?_;rintro e w' ⟨rfl,rfl⟩
    go_wp2_with fail;refine HY.out.mono ?_;rintro e w' ⟨rfl,rfl⟩
    go_wp2_with (at_builtin;go_must (refine AO rfl _ _ rfl rfl (ai.ext ((Ext.refl _).alloc _)) rfl (Arr.fresh1' _ _ z (by have:=HZ.out;omega) kQ) (d9.out z) (by simp;omega) ?_;intro v' w' dh au hb));go_roundw
    case rel=>exact⟨k+1,1,_,by omega,by omega,by go_num,rfl,by simp[HL.out],HS.out z 1 HZ.out,dh,(ad.alloc _).more hb⟩
    case measure=>simp[intOf];omega
   ·obtain⟨z,hz,kQ⟩:∃z,x+4294967296*0=z+y+q/\z<4294967296:=⟨x-(y+q),by omega,by omega⟩;have HZ:=hid hz;clear hz;go_wp2_with fail;refine HX.out.mono ?_;rintro e w' ⟨rfl,rfl⟩
    go_wp2_with fail;refine HY.out.mono ?_;rintro e w' ⟨rfl,rfl⟩
    go_wp2_with (at_builtin;go_must (refine AO rfl _ _ rfl rfl (ai.ext ((Ext.refl _).alloc _)) rfl (Arr.fresh1' _ _ z (by have:=HZ.out;omega) kQ) (d9.out z) (by simp;omega) ?_;intro v' w' dh au hb));go_roundw
    case rel=>exact⟨k+1,0,_,by omega,by omega,by go_num,rfl,by simp[HL.out],HS.out z 0 HZ.out,dh,(ad.alloc _).more hb⟩
    case measure=>simp[intOf];omega
  ·obtain rfl:k=xs.length:=by omega
   have bj:=N7 ax ai.ok (.inl (List.drop_eq_nil_of_le (Nat.le_refl _))) HL.out gH.out HV.out;have HT:=Cw _ _ _ ai.arr (by rw[HL.out];omega);rw[bj]at HT;have HT:=hid HT;clear bj;go_wp2_with fail;refine HT.out.mono ?_
   rintro e w2 ⟨v2,rfl,ho,hx⟩;go_wp2_with fail;go_ret2;exact⟨_,rfl,ho.mono ad.size,ad.trans hx⟩
theorem GN(w:World)(v u:Value)(xs ys:List Nat)(h:Arr w v xs)(h':Arr w u ys)(hn:xs.length<=536870912)(bh:ys.length<=1073741824):
  Calls Tryz.prog 224 #[v,u] w fun e w'=>∃v',e= .returned v'/\Own w.heap.size w' v' (Ac (val xs-val ys))/\Ext w w':=by
 rcases Nat.lt_or_ge (val xs) (val ys) with hlt|cx
 ·have HS:=hid (Sz w v u xs ys h h' (by omega) bh hlt);have h0:val xs-val ys=0:=by omega
  rw[h0];clear h h' hlt h0;go_enter Tryz.func224,Tryz.ntmps224;go_wp2_with fail;refine HS.out.mono ?_;rintro e w' ⟨rfl,rfl⟩
  go_wp2_with fail;go_ret;exact⟨_,rfl,Own.none_ _ _,Ext.refl _⟩
 ·have HS:=hid (SA w v u xs ys h h' hn bh cx);clear h h' cx;go_enter Tryz.func224,Tryz.ntmps224;go_wp2_with fail;refine HS.out.mono ?_;rintro e w' ⟨v',rfl,ho,hx⟩
  go_wp2_with fail;go_ret;exact⟨_,rfl,ho,hx⟩
theorem RH(w:World)(v u:Value)(xs ys:List Nat)(h:Arr w v xs)(h':Arr w u ys)(hn:xs.length<=268435456)(bh:ys.length<=268435456)(hlt:val xs<val ys*4294967296):
  Calls Tryz.prog 239 #[v,u] w fun e w'=>e= .returned (.int .u32 ((val xs / val ys:Nat):Int))/\Ext w w':=by
 have HA:=hid h;have HB:=hid h';have dl:=hid hlt;have ax:=h.ok;have bE:=h'.ok;clear h h' hlt;go_enter Tryz.func239,Tryz.ntmps239;go_wp2_with fail;go_loopw [5,6] (fun lo hi wr=>∃l k:Nat,l<=k/\k<=4294967295/\lo= .int .u64 l/\hi= .int .u64 k/\val ys*l<=val xs/\val xs<val ys*(k+1)/\Ext w wr) (fun lo hi _=>(intOf hi-intOf lo).toNat)
 case atStart=>exact⟨0,4294967295,by omega,by omega,rfl,rfl,by omega,dl.out,Ext.refl w⟩
 case round=>
  obtain⟨l,k,sh,hk,rfl,rfl,h1,h2,ad⟩:=hrel;have H1:=hid h1;clear h1;have H2:=hid h2;clear h2;by_cases hlt:l<k
  ·obtain⟨m,hm⟩:∃m,(l+k+1) / 2=m:=⟨_,rfl⟩;have iD:l<m:=by omega
   have ol:m<=k:=by omega
   have vB:m<4294967296:=by omega
   have HM:=hid (show ((l:Int)+(k:Int)+1) / 2=(m:Int) by omega);have hM:=HM.out;clear hm;have HS:=hid (EC wr u ys m 0 (HB.out.ext ad) (by omega) vB (by omega));have aB:=Db bE vB (show 0<4294967296 by omega);have oM:=hid (show (Ac (val ys*m+0)).length<=1073741824 by omega);clear aB;rw[show ((0:Nat):Int)=0 from rfl]at HS;go_wp2_with fail;refine HS.out.mono ?_
   rintro e w1 ⟨v1,rfl,ho,aj⟩;go_wp2_with fail;have cJ:=DJ w1 v1 v _ xs ho.arr (HA.out.ext (ad.trans aj)) oM.out (by omega);rw[Ad,Nat.add_zero]at cJ;by_cases hc:val ys*m<=val xs
   ·have fq:BQ (val ys*m) (val xs)<=0:=by unfold BQ;split<;>(try split)<;>omega
    have HC:=hid hc;clear hc;have cJ:=hid cJ;generalize BQ (val ys*m) (val xs)=cc at cJ fq;refine cJ.out.mono ?_
    rintro e w2 ⟨rfl,rfl⟩;go_wp2_with fail;go_roundw
    case rel=>exact⟨m,k,ol,hk,by first|rfl|exact congrArg (Value.int .u64) HM.out,rfl,HC.out,H2.out,ad.trans aj⟩
    case measure=>simp[intOf];have:=HM.out;omega
   ·have fq:¬BQ (val ys*m) (val xs)<=0:=by unfold BQ;split<;>(try split)<;>omega
    have dK:val xs<val ys*(m-1+1):=by rw[Nat.sub_add_cancel (by omega)];omega
    have HC:=hid dK;clear hc dK;have cJ:=hid cJ;generalize BQ (val ys*m) (val xs)=cc at cJ fq;refine cJ.out.mono ?_
    rintro e w2 ⟨rfl,rfl⟩;go_wp2_with fail;go_roundw
    case rel=>exact⟨l,m-1,by omega,by omega,rfl,congrArg (Value.int .u64) (by have:=HM.out;omega),H1.out,HC.out,ad.trans aj⟩
    case measure=>simp[intOf];have:=HM.out;omega
  ·obtain rfl:k=l:=by omega
   have he:=NT H1.out H2.out;have HE:=hid he;clear he;go_wp2_with fail;go_ret;exact⟨congrArg (fun z:Nat=>Ending.returned (.int .u32 (z:Int))) HE.out,ad⟩
def Uk(w0 wr:World)(rv:Value)(xs:List Nat)(b k r:Nat):Prop:=
 ∃qs:List Nat,k+qs.length=xs.length/\Ok qs/\val qs*b+r=val (xs.drop k)/\
  Blk wr w0.heap.size 183 (cells (List.replicate k 0++qs))/\Arr wr rv (Ac r)/\Ext w0 wr
theorem Hm(w:World)(v u:Value)(xs ys:List Nat)(h:Arr w v xs)(h':Arr w u ys)(hn:xs.length<=134217728)(bh:ys.length<=134217728)(hy:0<val ys):
  Calls Tryz.prog 205 #[v,u] w fun e w'=>∃v' u',e= .returned (.tuple #[v',u',.bool true])/\Own w.heap.size w' v' (Ac (val xs / val ys))/\Arr w' u' (Ac (val xs % val ys))/\Ext w w':=by
 have HA:=hid h;have HB:=hid h';obtain⟨ax,A,c,rfl,hc,hm,aa⟩:=h.open;obtain⟨bE,A',c',rfl,jc,kY,an⟩:=h'.open;have HC:=hid aa;have k7:0<ys.length:=by
  rcases Nat.eq_zero_or_pos ys.length with h0|h0
  ·have:=List.eq_nil_of_length_eq_zero h0;subst this;simp[val]at hy
  ·exact h0
 have i4:((ys.length:Int) == 0)=false:=by rw[beq_eq_false_iff_ne];omega
 have cS:=Cp xs.length (by omega);clear h h' aa an hm kY hc jc;go_enter Tryz.func205,Tryz.ntmps205;go_wp2_with fail;clear cS;go_loopw [8,9] (fun rv i wr=>∃k r:Nat,k<=xs.length/\r<val ys/\i= .int .i64 ((k:Int)-1)/\Uk w wr rv xs (val ys) k r) (fun _ i _=>(intOf i+1).toNat)
 case atStart=>exact⟨xs.length,0,Nat.le_refl _,hy,rfl,[],rfl,B3,by simp[val],by simpa [EW] using Blk.new w 183 (zeros xs.length),Arr.none_ _,(Ext.refl w).alloc _⟩
 case round=>
  obtain⟨k,r,hk,hr,rfl,qs,hl,kV,hv,ao,yl,ad⟩:=hrel;have HV:=hid hv;clear hv;have dR:=hid ao;clear ao;have HL:=hid hl;clear hl;have HR:=hid hr;clear hr;have HY:=hid hy;clear hy;rcases Nat.eq_zero_or_pos k with h0|h0
  ·subst h0;obtain⟨ii,mb⟩:=KD HR.out (by simpa using HV.out);have aB:qs.length=xs.length:=by simpa using HL.out
   have aw:Own w.heap.size wr (.slice (some ⟨w.heap.size,0,none⟩) xs.length xs.length) qs:=by
    have h3:=Own.block (B:=w.heap.size) kV (by simpa using dR.out) (Nat.le_refl _) (by omega)
    rwa [aB]at h3
   have HT:=hid (Cw _ _ _ aw.arr (by omega));rw[ii]at HT;rw[mb]at yl;clear ii mb aw aB;go_wp2_with fail;refine HT.out.mono ?_
   rintro e w' ⟨v',rfl,ho,hx⟩;go_wp2_with fail;go_ret3;exact⟨_,_,rfl,ho.mono ad.size,yl.ext hx,ad.trans hx⟩
  ·obtain⟨m,rfl⟩:∃m,k=m+1:=⟨k-1,by omega⟩;obtain⟨b,o,rfl,hb,aa⟩:=HC.out (by omega);have hx:=(ad.cell hb).trans (aa m (by omega));clear aa;have cK:=ax.get m;have HS:=hid (RQ (k:=m) HV.out);obtain⟨x,b7⟩:∃x,xs.getD m 0=x:=⟨_,rfl⟩;rw[b7]at hx cK HS;clear b7;have sb:=ad.size;have o9:=Ie bE (Nat.le_of_lt HR.out);have d9:=hid (show [x].length+(Ac r).length<=2147483648 by simp;omega);simp only[d32]at hx;go_wp2_with (at_builtin;go_must (refine AO rfl _ _ rfl rfl (Own.fresh1' _ _ x rfl cK) rfl (yl.ext ((Ext.refl _).alloc _)) d9.out (by simp) ?_;intro v1 w1 pb au aq));have he1:Ext wr w1:=((Ext.refl wr).alloc _).more aq;have bj:val ([x]++Ac r)=x+4294967296*r:=by simp[val,Ad]
   have HT:=Cw w1 v1 _ pb.arr (by simp;omega);rw[bj]at HT;have su:=TP HR.out cK;have vL:=Qg HR.out cK;have VE:=I6 bE vL;have fB:=Nat.mod_lt (x+4294967296*r) HY.out;clear bj au pb;obtain⟨N,hN⟩:∃N,x+4294967296*r=N:=⟨_,rfl⟩;rw[hN]at HT HS su vL VE fB;clear hN;have rC:=hid fB;clear fB;have ef:=hid vL;clear vL;refine HT.mono ?_
   rintro e w2 ⟨v2,rfl,cM,ah⟩;have he2:=ad.trans (he1.trans ah);have cJ:=DJ w2 v2 _ _ ys cM.arr (HB.out.ext he2) (by omega) (by omega);rw[Ad]at cJ;rcases Nat.lt_or_ge N (val ys) with hlt|ew
   ·have fq:¬0<=BQ N (val ys):=by rw[EO hlt];omega
    have HZ:=hid (Nat.div_eq_of_lt hlt);have uI:=hid (Nat.mod_eq_of_lt hlt);have dl:=hid hlt;clear hlt su HT VE;have cJ:=hid cJ;generalize BQ N (val ys)=cc at cJ fq;go_wp2_with fail;refine cJ.out.mono ?_;rintro e w3 ⟨rfl,rfl⟩
    go_wp2_with fail;go_roundw
    case rel=>
     refine⟨m,N,by omega,dl.out,rfl,0::qs,by have:=HL.out;simp;omega,C1 (by omega) kV,?_,?_,cM.arr,he2⟩
     ·have:=HS.out;rw[HZ.out,uI.out]at this;exact this
     ·have h1:=dR.out.ext (he1.trans ah);rw[List.replicate_succ',List.append_assoc]at h1;exact h1
    case measure=>simp[intOf]
   ·have fq:0<=BQ N (val ys):=by unfold BQ;split<;>(try split)<;>omega
    have HGE:=hid ew;clear ew;have cJ:=hid cJ;generalize BQ N (val ys)=cc at cJ fq;go_wp2_with fail;refine cJ.out.mono ?_;rintro e w3 ⟨rfl,rfl⟩
    have HF:=RH w2 v2 _ _ ys cM.arr (HB.out.ext he2) (by omega) (by omega) (by rw[Ad];exact ef.out);rw[Ad]at HF;have o7:N-(val ys*(N / val ys)+0)=N % val ys:=by
     have:=Nat.div_add_mod N (val ys);omega
    have lM:=hid o7;clear o7;have tq:(Ac (val ys*(N / val ys)+0)).length<=ys.length+1:=Db bE su (by omega);obtain⟨q,hq⟩:∃q,N / val ys=q:=⟨_,rfl⟩;rw[hq]at HF su HS lM tq;clear hq;go_wp2_with fail;refine HF.mono ?_
    rintro e w3 ⟨rfl,ab⟩;have he3:=he2.trans ab;have oC:=dR.out.ext ((he1.trans ah).trans ab);have ac:=oC.cell m;have gP:=oC.frozen m;rw[AY _ _ (by simp;omega)]at ac;simp only[d32]at ac;have aZ:=hid oC;clear oC;go_wp2_with fail;have xR:w.heap.size<w1.heap.size:=by have:=he1.size;have:=dR.out.lt;omega
    have Xq:=(cM.ext ab).far (p:=⟨w.heap.size,m,none⟩) xR (d32 q);have fo:Ext w (w3.setCell ⟨w.heap.size,m,none⟩ (d32 q)):=he3.setCell (Nat.le_refl _) _;have qL:=aZ.out.set_ m (d32 q);rw[Bp,IC]at qL;have uQ:=EC (w3.setCell ⟨w.heap.size,m,none⟩ (d32 q)) _ ys q 0 (HB.out.ext fo) (by omega) su (by omega);rw[show ((0:Nat):Int)=0 from rfl]at uQ;have fP:=hid qL;clear qL;refine uQ.mono ?_
    rintro e w5 ⟨v5,rfl,oh,hx5⟩;go_wp2_with fail;have vX:=GN w5 v2 v5 _ _ (Xq.ext hx5).arr oh.arr (by omega) (by omega);rw[Ad,Ad,lM.out]at vX;refine vX.mono ?_
    rintro e w6 ⟨v6,rfl,kW,cF⟩;go_wp2_with fail;go_roundw
    case rel=>exact⟨m,N % val ys,by omega,rC.out,rfl,q::qs,by have:=HL.out;simp;omega,C1 su kV,HS.out,(fP.out.ext hx5).ext cF,kW.arr,fo.trans (hx5.trans cF)⟩
    case measure=>simp[intOf]
end Big
end Go.Proofs.YtkoaogkknnelaaaGreatDoor
