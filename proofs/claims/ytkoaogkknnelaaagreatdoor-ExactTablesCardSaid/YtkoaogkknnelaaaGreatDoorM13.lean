import Derived.Test.YtkoaogkknnelaaaGreatDoorM8
import Derived.RegionTactic
import Derived.ChangeAlike
set_option linter.unusedVariables false
set_option linter.unusedSimpArgs false
namespace Go.Proofs.YtkoaogkknnelaaaGreatDoor
namespace Big
open Lib renaming hid → J
open Go.RowKit
theorem Tm(w:World)(v u:Value)(xs ys:List Nat)(h:Arr w v xs)(h':Arr w u ys)(hn:xs.length<=1073741824)(bA:ys.length<=1073741824)(hlt:val xs<val ys):
  Calls Tryz.prog 259 #[v,u] w fun e w'=>e= .returned (.tuple #[.slice none 0 0,.bool false])/\w=w':=by
 have HC:=DD w v u xs ys h h' hn bA;rw[Ff hlt]at HC;have HC:=J HC;clear h h' hlt;go_enter Tryz.func259,Tryz.ntmps259;go_wp2_with fail;refine HC.o.mono ?_;rintro e w' ⟨rfl,rfl⟩
 go_wp2_with fail;go_ret2;exact⟨rfl,rfl⟩
theorem Tn(w:World)(v u:Value)(xs ys:List Nat)(h:Arr w v xs)(h':Arr w u ys)(hn:xs.length<=536870912)(bA:ys.length<=1073741824)(cH:val ys<=val xs):
  Calls Tryz.prog 259 #[v,u] w fun e w'=>∃v',e= .returned (.tuple #[v',.bool true])/\Own w.heap.size w' v' (Ac (val xs-val ys))/\Ext w w':=by
 have HC:=J (DD w v u xs ys h h' (by omega) bA);have HA:=J h;have HB:=J h';obtain⟨aA,A,c,rfl,hc,hm,aa⟩:=h.open;obtain⟨bR,A',c',rfl,gH,mO,ar⟩:=h'.open;have gG:¬BZ (val xs) (val ys)<0:=by rw[Ei];omega
 have gO:=J cH;clear h h' aa ar hm mO hc gH cH;generalize BZ (val xs) (val ys)=cc at HC gG;go_enter Tryz.func259,Tryz.ntmps259;go_wp2_with fail;refine HC.o.mono ?_;rintro e w' ⟨rfl,rfl⟩
 go_wp2_with fail;go_loopw [6,7,8] (fun out cy i wr=>∃(k q:Nat) (zs:List Nat),k<=xs.length/\q<=1/\i= .int .i64 k/\cy= .int .u64 q/\zs.length=k/\
   val (xs.take k)+4294967296 ^ k*q=val zs+val (ys.take k)/\Own w.heap.size wr out zs/\Ext w wr) (fun _ _ i _=>xs.length-(intOf i).toNat)
 case atStart=>exact⟨0,0,[],qaj _,by omega,rfl,rfl,rfl,by simp[val],Own.none_ _ _,Ext.refl w⟩
 case round=>
  obtain⟨k,q,zs,hk,hq,rfl,rfl,hl,hv,al,ae⟩:=hrel;have HV:=J hv;clear hv;have HL:=J hl;clear hl;have rT:=ae.size;by_cases hlt:k<xs.length
  ·have HX:=J (Dy wr _ xs (k:Int) (HA.o.ext ae) (by omega));have HY:=J (Dy wr _ ys (k:Int) (HB.o.ext ae) (by omega));rw[qaq]at HX HY;have cW:=aA.get k;have gC:=bR.get k;have HS:=J (fun z c' h=> @L3 xs ys zs k q z c' HL.o HV.o h);obtain⟨x,bS⟩:∃x,xs.getD k 0=x:=⟨_,rfl⟩;obtain⟨y,ei⟩:∃y,ys.getD k 0=y:=⟨_,rfl⟩;rw[bS]at HX HS cW;rw[ei]at HY HS gC;clear bS ei;have ed:=J (show ∀z:Nat,zs.length+[z].length<=2147483648 from fun z=>by simp[HL.o];omega);by_cases hb:x<y+q
   ·obtain⟨z,hz,mF⟩:∃z,x+4294967296*1=z+y+q/\z<4294967296:=⟨x+4294967296-(y+q),by omega,by omega⟩;have HZ:=J hz;clear hz;go_wp2_with fail;refine HX.o.mono ?_;rintro e w' ⟨rfl,rfl⟩
    go_wp2_with fail;refine HY.o.mono ?_;rintro e w' ⟨rfl,rfl⟩
    go_wp2_with (at_builtin;go_must (refine AW rfl _ _ rfl rfl (al.ext ((Ext.refl _).alloc _)) rfl (Arr.fresh1' _ _ z (by have:=HZ.o;omega) mF) (ed.o z) (by simp;omega) ?_;intro v' w' dw aC hb));go_roundw
    case rel=>exact⟨k+1,1,_,by omega,by omega,by go_num,rfl,by simp[HL.o],HS.o z 1 HZ.o,dw,(ae.alloc _).more hb⟩
    case measure=>simp[intOf];omega
   ·obtain⟨z,hz,mF⟩:∃z,x+4294967296*0=z+y+q/\z<4294967296:=⟨x-(y+q),by omega,by omega⟩;have HZ:=J hz;clear hz;go_wp2_with fail;refine HX.o.mono ?_;rintro e w' ⟨rfl,rfl⟩
    go_wp2_with fail;refine HY.o.mono ?_;rintro e w' ⟨rfl,rfl⟩
    go_wp2_with (at_builtin;go_must (refine AW rfl _ _ rfl rfl (al.ext ((Ext.refl _).alloc _)) rfl (Arr.fresh1' _ _ z (by have:=HZ.o;omega) mF) (ed.o z) (by simp;omega) ?_;intro v' w' dw aC hb));go_roundw
    case rel=>exact⟨k+1,0,_,by omega,by omega,by go_num,rfl,by simp[HL.o],HS.o z 0 HZ.o,dw,(ae.alloc _).more hb⟩
    case measure=>simp[intOf];omega
  ·obtain rfl:k=xs.length:=by omega
   have hval:=OM aA al.ok (.inl (qaS (qab _))) HL.o gO.o HV.o;have HT:=CA _ _ _ al.arr (by rw[HL.o];omega);rw[hval]at HT;have HT:=J HT;clear hval;go_wp2_with fail;refine HT.o.mono ?_
   rintro e w2 ⟨v2,rfl,ho,hx⟩;go_wp2_with fail;go_ret2;exact⟨_,rfl,ho.mono ae.size,ae.trans hx⟩
theorem FS(w:World)(v u:Value)(xs ys:List Nat)(h:Arr w v xs)(h':Arr w u ys)(hn:xs.length<=536870912)(bA:ys.length<=1073741824):
  Calls Tryz.prog 224 #[v,u] w fun e w'=>∃v',e= .returned v'/\Own w.heap.size w' v' (Ac (val xs-val ys))/\Ext w w':=by
 rcases qah (val xs) (val ys) with hlt|cH
 ·have HS:=J (Tm w v u xs ys h h' (by omega) bA hlt);have h0:val xs-val ys=0:=by omega
  rw[h0];clear h h' hlt h0;go_enter Tryz.func224,Tryz.ntmps224;go_wp2_with fail;refine HS.o.mono ?_;rintro e w' ⟨rfl,rfl⟩
  go_wp2_with fail;go_ret;exact⟨_,rfl,Own.none_ _ _,Ext.refl _⟩
 ·have HS:=J (Tn w v u xs ys h h' hn bA cH);clear h h' cH;go_enter Tryz.func224,Tryz.ntmps224;go_wp2_with fail;refine HS.o.mono ?_;rintro e w' ⟨v',rfl,ho,hx⟩
  go_wp2_with fail;go_ret;exact⟨_,rfl,ho,hx⟩
theorem SC(w:World)(v u:Value)(xs ys:List Nat)(h:Arr w v xs)(h':Arr w u ys)(hn:xs.length<=268435456)(bA:ys.length<=268435456)(hlt:val xs<val ys*4294967296):
  Calls Tryz.prog 239 #[v,u] w fun e w'=>e= .returned (.int .u32 ((val xs / val ys:Nat):Int))/\Ext w w':=by
 have HA:=J h;have HB:=J h';have dH:=J hlt;have aA:=h.ok;have bR:=h'.ok;clear h h' hlt;go_enter Tryz.func239,Tryz.ntmps239;go_wp2_with fail;go_loopw [5,6] (fun lo hi wr=>∃l k:Nat,l<=k/\k<=4294967295/\lo= .int .u64 l/\hi= .int .u64 k/\val ys*l<=val xs/\val xs<val ys*(k+1)/\Ext w wr) (fun lo hi _=>(intOf hi-intOf lo).toNat)
 case atStart=>exact⟨0,4294967295,by omega,by omega,rfl,rfl,by omega,dH.o,Ext.refl w⟩
 case round=>
  obtain⟨l,k,uB,hk,rfl,rfl,h1,h2,ae⟩:=hrel;have H1:=J h1;clear h1;have H2:=J h2;clear h2;by_cases hlt:l<k
  ·obtain⟨m,hm⟩:∃m,(l+k+1) / 2=m:=⟨_,rfl⟩;have im:l<m:=by omega
   have mN:m<=k:=by omega
   have uA:m<4294967296:=by omega
   have HM:=J (show ((l:Int)+(k:Int)+1) / 2=(m:Int) by omega);have hM:=HM.o;clear hm;have HS:=J (E4 wr u ys m 0 (HB.o.ext ae) (by omega) uA (by omega));have aH:=Du bR uA (show 0<4294967296 by omega);have qF:=J (show (Ac (val ys*m+0)).length<=1073741824 by omega);clear aH;rw[show ((0:Nat):Int)=0 from rfl]at HS;go_wp2_with fail;refine HS.o.mono ?_
   rintro e w1 ⟨v1,rfl,ho,ak⟩;go_wp2_with fail;have cT:=DD w1 v1 v _ xs ho.arr (HA.o.ext (ae.trans ak)) qF.o (by omega);rw[Ad,qaN]at cT;by_cases hc:val ys*m<=val xs
   ·have gG:BZ (val ys*m) (val xs)<=0:=by unfold BZ;split<;>(try split)<;>omega
    have HC:=J hc;clear hc;have cT:=J cT;generalize BZ (val ys*m) (val xs)=cc at cT gG;refine cT.o.mono ?_
    rintro e w2 ⟨rfl,rfl⟩;go_wp2_with fail;go_roundw
    case rel=>exact⟨m,k,mN,hk,by first|rfl|exact congrArg (Value.int .u64) HM.o,rfl,HC.o,H2.o,ae.trans ak⟩
    case measure=>simp[intOf];have:=HM.o;omega
   ·have gG:¬BZ (val ys*m) (val xs)<=0:=by unfold BZ;split<;>(try split)<;>omega
    have df:val xs<val ys*(m-1+1):=by rw[Nat.sub_add_cancel (by omega)];omega
    have HC:=J df;clear hc df;have cT:=J cT;generalize BZ (val ys*m) (val xs)=cc at cT gG;refine cT.o.mono ?_
    rintro e w2 ⟨rfl,rfl⟩;go_wp2_with fail;go_roundw
    case rel=>exact⟨l,m-1,by omega,by omega,rfl,congrArg (Value.int .u64) (by have:=HM.o;omega),H1.o,HC.o,ae.trans ak⟩
    case measure=>simp[intOf];have:=HM.o;omega
  ·obtain rfl:k=l:=by omega
   have he:=Oz H1.o H2.o;have HE:=J he;clear he;go_wp2_with fail;go_ret;exact⟨congrArg (fun z:Nat=>Ending.returned (.int .u32 (z:Int))) HE.o,ae⟩
def Vd(w0 wr:World)(rv:Value)(xs:List Nat)(b k r:Nat):Prop:=
 ∃qs:List Nat,k+qs.length=xs.length/\Ok qs/\val qs*b+r=val (xs.drop k)/\
  Blk wr w0.heap.size 183 (cells (List.replicate k 0++qs))/\Arr wr rv (Ac r)/\Ext w0 wr
theorem Iq(w:World)(v u:Value)(xs ys:List Nat)(h:Arr w v xs)(h':Arr w u ys)(hn:xs.length<=134217728)(bA:ys.length<=134217728)(hy:0<val ys):
  Calls Tryz.prog 205 #[v,u] w fun e w'=>∃v' u',e= .returned (.tuple #[v',u',.bool true])/\Own w.heap.size w' v' (Ac (val xs / val ys))/\Arr w' u' (Ac (val xs % val ys))/\Ext w w':=by
 have HA:=J h;have HB:=J h';obtain⟨aA,A,c,rfl,hc,hm,aa⟩:=h.open;obtain⟨bR,A',c',rfl,gH,mO,ar⟩:=h'.open;have HC:=J aa;have gW:0<ys.length:=by
  rcases qag ys.length with h0|h0
  ·have:=qap h0;subst this;simp[val]at hy
  ·exact h0
 have kF:((ys.length:Int) == 0)=false:=by rw[beq_eq_false_iff_ne];omega
 have dp:=Cn xs.length (by omega);clear h h' aa ar hm mO hc gH;go_enter Tryz.func205,Tryz.ntmps205;go_wp2_with fail;clear dp;go_loopw [8,9] (fun rv i wr=>∃k r:Nat,k<=xs.length/\r<val ys/\i= .int .i64 ((k:Int)-1)/\Vd w wr rv xs (val ys) k r) (fun _ i _=>(intOf i+1).toNat)
 case atStart=>exact⟨xs.length,0,qab _,hy,rfl,[],rfl,Cq,by simp[val],by simpa [En] using Blk.new w 183 (zeros xs.length),Arr.none_ _,(Ext.refl w).alloc _⟩
 case round=>
  obtain⟨k,r,hk,hr,rfl,qs,hl,mL,hv,ax,VT,ae⟩:=hrel;have HV:=J hv;clear hv;have ey:=J ax;clear ax;have HL:=J hl;clear hl;have HR:=J hr;clear hr;have HY:=J hy;clear hy;rcases qag k with h0|h0
  ·subst h0;obtain⟨i3,oe⟩:=Ln HR.o (by simpa using HV.o);have aH:qs.length=xs.length:=by simpa using HL.o
   have aB:Own w.heap.size wr (.slice (some ⟨w.heap.size,0,none⟩) xs.length xs.length) qs:=by
    have h3:=Own.block (B:=w.heap.size) mL (by simpa using ey.o) (qab _) (by omega)
    rwa [aH]at h3
   have HT:=J (CA _ _ _ aB.arr (by omega));rw[i3]at HT;rw[oe]at VT;clear i3 oe aB aH;go_wp2_with fail;refine HT.o.mono ?_
   rintro e w' ⟨v',rfl,ho,hx⟩;go_wp2_with fail;go_ret3;exact⟨_,_,rfl,ho.mono ae.size,VT.ext hx,ae.trans hx⟩
  ·obtain⟨m,rfl⟩:∃m,k=m+1:=⟨k-1,by omega⟩;obtain⟨b,o,rfl,hb,aa⟩:=HC.o (by omega);have hx:=(ae.cell hb).trans (aa m (by omega));clear aa;have cW:=aA.get m;have HS:=J (SJ (k:=m) HV.o);obtain⟨x,bS⟩:∃x,xs.getD m 0=x:=⟨_,rfl⟩;rw[bS]at hx cW HS;clear bS;have rT:=ae.size;have lc:=IU bR (qaK HR.o);have ed:=J (show [x].length+(Ac r).length<=2147483648 by simp;omega);simp only[d32]at hx;go_wp2_with (at_builtin;go_must (refine AW rfl _ _ rfl rfl (Own.fresh1' _ _ x rfl cW) rfl (VT.ext ((Ext.refl _).alloc _)) ed.o (by simp) ?_;intro v1 w1 qU aC am));have he1:Ext wr w1:=((Ext.refl wr).alloc _).more am;have hval:val ([x]++Ac r)=x+4294967296*r:=by simp[val,Ad]
   have HT:=CA w1 v1 _ qU.arr (by simp;omega);rw[hval]at HT;have uL:=UC HR.o cW;have ym:=QO HR.o cW;have Yx:=JM bR ym;have gU:=qba (x+4294967296*r) HY.o;clear hval aC qU;obtain⟨N,hN⟩:∃N,x+4294967296*r=N:=⟨_,rfl⟩;rw[hN]at HT HS uL ym Yx gU;clear hN;have t3:=J gU;clear gU;have eP:=J ym;clear ym;refine HT.mono ?_
   rintro e w2 ⟨v2,rfl,de,ah⟩;have he2:=ae.trans (he1.trans ah);have cT:=DD w2 v2 _ _ ys de.arr (HB.o.ext he2) (by omega) (by omega);rw[Ad]at cT;rcases qah N (val ys) with hlt|fC
   ·have gG:¬0<=BZ N (val ys):=by rw[Ff hlt];omega
    have HZ:=J (qbB hlt);have tC:=J (qbA hlt);have dH:=J hlt;clear hlt uL HT Yx;have cT:=J cT;generalize BZ N (val ys)=cc at cT gG;go_wp2_with fail;refine cT.o.mono ?_;rintro e w3 ⟨rfl,rfl⟩
    go_wp2_with fail;go_roundw
    case rel=>
     refine⟨m,N,by omega,dH.o,rfl,0::qs,by have:=HL.o;simp;omega,DA (by omega) mL,?_,?_,de.arr,he2⟩
     ·have:=HS.o;rw[HZ.o,tC.o]at this;exact this
     ·have h1:=ey.o.ext (he1.trans ah);rw[List.replicate_succ',qao]at h1;exact h1
    case measure=>simp[intOf]
   ·have gG:0<=BZ N (val ys):=by unfold BZ;split<;>(try split)<;>omega
    have HGE:=J fC;clear fC;have cT:=J cT;generalize BZ N (val ys)=cc at cT gG;go_wp2_with fail;refine cT.o.mono ?_;rintro e w3 ⟨rfl,rfl⟩
    have HF:=SC w2 v2 _ _ ys de.arr (HB.o.ext he2) (by omega) (by omega) (by rw[Ad];exact eP.o);rw[Ad]at HF;have qQ:N-(val ys*(N / val ys)+0)=N % val ys:=by
     have:=Nat.div_add_mod N (val ys);omega
    have lk:=J qQ;clear qQ;have vC:(Ac (val ys*(N / val ys)+0)).length<=ys.length+1:=Du bR uL (by omega);obtain⟨q,hq⟩:∃q,N / val ys=q:=⟨_,rfl⟩;rw[hq]at HF uL HS lk vC;clear hq;go_wp2_with fail;refine HF.mono ?_
    rintro e w3 ⟨rfl,ab⟩;have he3:=he2.trans ab;have qn:=ey.o.ext ((he1.trans ah).trans ab);have hst:=qn.cell m;have hfz:=qn.frozen m;rw[Bi _ _ (by simp;omega)]at hst;simp only[d32]at hst;have be:=J qn;clear qn;go_wp2_with fail;have Vu:w.heap.size<w1.heap.size:=by have:=he1.size;have:=ey.o.lt;omega
    have hov:=(de.ext ab).far (p:=⟨w.heap.size,m,none⟩) Vu (d32 q);have gF:Ext w (w3.setCell ⟨w.heap.size,m,none⟩ (d32 q)):=he3.setCell (qab _) _;have sV:=be.o.set_ m (d32 q);rw[BE,Jh]at sV;have xp:=E4 (w3.setCell ⟨w.heap.size,m,none⟩ (d32 q)) _ ys q 0 (HB.o.ext gF) (by omega) uL (by omega);rw[show ((0:Nat):Int)=0 from rfl]at xp;have ig:=J sV;clear sV;refine xp.mono ?_
    rintro e w5 ⟨v5,rfl,qd,hx5⟩;go_wp2_with fail;have nI:=FS w5 v2 v5 _ _ (hov.ext hx5).arr qd.arr (by omega) (by omega);rw[Ad,Ad,lk.o]at nI;refine nI.mono ?_
    rintro e w6 ⟨v6,rfl,fy,dd⟩;go_wp2_with fail;go_roundw
    case rel=>exact⟨m,N % val ys,by omega,t3.o,rfl,q::qs,by have:=HL.o;simp;omega,DA uL mL,HS.o,(ig.o.ext hx5).ext dd,fy.arr,gF.trans (hx5.trans dd)⟩
    case measure=>simp[intOf]
end Big
end Go.Proofs.YtkoaogkknnelaaaGreatDoor
