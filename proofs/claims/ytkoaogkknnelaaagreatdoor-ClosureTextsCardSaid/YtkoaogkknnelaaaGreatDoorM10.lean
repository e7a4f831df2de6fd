import Derived.RegionTactic
import Derived.ChangeAlike
import Derived.Test.YtkoaogkknnelaaaGreatDoorM9
set_option linter.unusedVariables false
set_option linter.unusedSimpArgs false
namespace Go.Proofs.YtkoaogkknnelaaaGreatDoor
namespace Big
open Lib renaming hid → J
open Go.RowKit
theorem Fa(w:World)(v:Value)(xs:List Nat)(m c:Nat)(h:Arr w v xs)(hn:xs.length<=536870912)(hm:m<4294967296)(hc:c<4294967296):
  Calls Tryz.prog 170 #[v,.int .u32 (m:Int),.int .u32 (c:Int)] w fun e w'=>∃v',e= .returned v'/\Own w.heap.size w' v' (Af (val xs*m+c))/\Ext w w':=by
 have HA:=J h;obtain⟨an,A,cap,rfl,eA,gY,aa⟩:=h.open;have HC:=J aa;clear h aa gY eA;go_enter Tryz.func170,Tryz.ntmps170;go_wp2_with fail;go_loopw [7,8,15] (fun out cy i wr=>∃(k q:Nat) (ys:List Nat),k<=xs.length/\q<4294967296/\i= .int .i64 k/\cy= .int .u64 q/\ys.length=k/\
   val ys+4294967296 ^ k*q=val (xs.take k)*m+c/\Own w.heap.size wr out ys/\Ext w wr) (fun _ _ i _=>xs.length-(intOf i).toNat)
 case atStart=>exact⟨0,c,[],qal _,hc,rfl,rfl,rfl,by simp[val],Own.none_ _ _,Ext.refl w⟩
 case round=>
  obtain⟨k,q,ys,hk,hq,rfl,rfl,hl,hv,ac,ai⟩:=hrel;have HV:=J hv;clear hv;have HL:=J hl;clear hl;have fO:=ai.size;by_cases hlt:k<xs.length
  ·obtain⟨b,o,rfl,hb,aa⟩:=HC.o (by omega);have hx:=(ai.cell hb).trans (aa k hlt);clear aa;have fp:=an.get k;have HS:=J (I1 xs ys k m c q hlt HL.o HV.o);have hp:=IP fp hm;obtain⟨x,hxe⟩:∃x,xs.getD k 0=x:=⟨_,rfl⟩;rw[hxe]at hx fp hp HS;clear hxe;have hp':(x:Int)*(m:Int)<=18446744065119617025:=by rw[<-Int.natCast_mul];omega
   have hp0:0<=(x:Int)*(m:Int):=by rw[<-Int.natCast_mul];omega
   have hy:(q+x*m) % 4294967296<4294967296:=qbl _ (by omega);have HY:=J hy;clear hy;have fZ:=J (show ys.length+[(q+x*m) % 4294967296].length<=2147483648 by simp[HL.o];omega);simp only[d32]at hx;go_wp2_with (at_builtin;go_must (refine Be rfl _ _ rfl rfl (ac.ext ((Ext.refl _).alloc _)) rfl (Arr.fresh1 _ ((q+x*m) % 4294967296) HY.o) fZ.o (by simp;omega) ?_;intro v' w' bf hgr hb));go_roundw
   case rel=>
    refine⟨k+1,(q+x*m) / 4294967296,_,by omega,qbx (by omega),by go_num,by go_num,by simp[HL.o],HS.o,bf,(ai.alloc _).more hb⟩
   case measure=>simp[intOf];omega
  ·obtain rfl:k=xs.length:=by omega
   have fZ:=J (show ys.length+[q].length<=2147483648 by simp[HL.o];omega);have hval:val (ys++[q])=val xs*m+c:=by
    rw[Cu,HL.o,HV.o,qak (qad _)]
   have YE:=J hval;clear hval;go_wp2_with (at_builtin;go_must (refine Be rfl _ _ rfl rfl (ac.ext ((Ext.refl _).alloc _)) rfl (Arr.fresh1 _ q hq) fZ.o (by simp;omega) ?_;intro v' w' bf hgr hb));have HT:=J (D3 _ _ _ bf.arr (by simp[HL.o];omega));rw[YE.o]at HT;refine HT.o.mono ?_
   rintro e w2 ⟨v2,rfl,ho,hx⟩;go_wp2_with fail;go_ret;have he:Ext w w':=(ai.alloc _).more hb;exact⟨_,rfl,ho.mono he.size,he.trans hx⟩
theorem IM(w:World)(n:Nat)(h:n<18446744073709551616):
  Calls Tryz.prog 62 #[.int .u64 (n:Int)] w fun e w'=>∃v',e= .returned v'/\Own w.heap.size w' v' (Af n)/\Ext w w':=by
 have HN:=J h;clear h;go_enter Tryz.func62,Tryz.ntmps62;go_wp2_with fail;have h1:n % 4294967296<4294967296:=by omega
 have h2:n / 4294967296<4294967296:=by have:=HN.o;omega
 have HT:=D3 _ _ _ (Own.fresh2 w (n % 4294967296) (n / 4294967296) h1 h2).arr (by simp);have hv:val [n % 4294967296,n / 4294967296]=n:=by simp[val];omega
 rw[hv]at HT;have e1:Value.int .u32 ((n:Int) % 4294967296)=d32 (n % 4294967296):=rfl;have e2:Value.int .u32 ((n:Int) / 4294967296 % 4294967296)=d32 (n / 4294967296):=congrArg (Value.int .u32) (by have:=HN.o;omega);rw[e1,e2];clear e1 e2 hv;refine HT.mono ?_
 rintro e w2 ⟨v2,rfl,ho,hx⟩;go_wp2_with fail;go_ret;have he:Ext w (w.alloc (.cells #[d32 (n % 4294967296),d32 (n / 4294967296)] 183)):=(Ext.refl w).alloc _;exact⟨_,rfl,ho.mono he.size,he.trans hx⟩
theorem R9(w:World)(n:Nat)(h:n<18446744073709551616):
  Calls Tryz.prog 214 #[.int .u64 (n:Int)] w fun e w'=>∃v',e= .returned v'/\Own w.heap.size w' v' (Af n)/\Ext w w':=by
 have HN:=J h;clear h;go_enter Tryz.func214,Tryz.ntmps214;go_wp2_with fail;have h1:n % 4294967296<4294967296:=by omega
 have h2:n / 4294967296<4294967296:=by have:=HN.o;omega
 have HT:=B4 _ _ _ (Own.fresh2 w (n % 4294967296) (n / 4294967296) h1 h2).arr (by simp);have hv:val [n % 4294967296,n / 4294967296]=n:=by simp[val];omega
 rw[hv]at HT;have e1:Value.int .u32 ((n:Int) % 4294967296)=d32 (n % 4294967296):=rfl;have e2:Value.int .u32 ((n:Int) / 4294967296 % 4294967296)=d32 (n / 4294967296):=congrArg (Value.int .u32) (by have:=HN.o;omega);rw[e1,e2];clear e1 e2 hv;refine HT.mono ?_
 rintro e w2 ⟨v2,rfl,ho,hx⟩;go_wp2_with fail;go_ret;have he:Ext w (w.alloc (.cells #[d32 (n % 4294967296),d32 (n / 4294967296)] 183)):=(Ext.refl w).alloc _;exact⟨_,rfl,ho.mono he.size,he.trans hx⟩
theorem Tl(w:World)(v u:Value)(xs ys:List Nat)(h:Arr w v xs)(h':Arr w u ys)(hn:xs.length<=1073741824)(cC:ys.length<=1073741824)(hlt:val xs<val ys):
  Calls Tryz.prog 259 #[v,u] w fun e w'=>e= .returned (.tuple #[.slice none 0 0,.bool false])/\w=w':=by
 have HC:=GS w v u xs ys h h' hn cC;rw[Ge hlt]at HC;have HC:=J HC;clear h h' hlt;go_enter Tryz.func259,Tryz.ntmps259;go_wp2_with fail;refine HC.o.mono ?_;rintro e w' ⟨rfl,rfl⟩
 go_wp2_with fail;go_ret2;exact⟨rfl,rfl⟩
theorem Tm(w:World)(v u:Value)(xs ys:List Nat)(h:Arr w v xs)(h':Arr w u ys)(hn:xs.length<=536870912)(cC:ys.length<=1073741824)(hle:val ys<=val xs):
  Calls Tryz.prog 259 #[v,u] w fun e w'=>∃v',e= .returned (.tuple #[v',.bool true])/\Own w.heap.size w' v' (Af (val xs-val ys))/\Ext w w':=by
 have HC:=J (GS w v u xs ys h h' (by omega) cC);have HA:=J h;have HB:=J h';obtain⟨an,A,c,rfl,hc,hm,aa⟩:=h.open;obtain⟨dE,A',c',rfl,hc',qw,bv⟩:=h'.open;have kW:¬DN (val xs) (val ys)<0:=by rw[JS];omega
 have fm:=J hle;clear h h' aa bv hm qw hc hc' hle;generalize DN (val xs) (val ys)=cc at HC kW;go_enter Tryz.func259,Tryz.ntmps259;go_wp2_with fail;refine HC.o.mono ?_;rintro e w' ⟨rfl,rfl⟩
 go_wp2_with fail;go_loopw [6,7,8] (fun out cy i wr=>∃(k q:Nat) (zs:List Nat),k<=xs.length/\q<=1/\i= .int .i64 k/\cy= .int .u64 q/\zs.length=k/\
   val (xs.take k)+4294967296 ^ k*q=val zs+val (ys.take k)/\Own w.heap.size wr out zs/\Ext w wr) (fun _ _ i _=>xs.length-(intOf i).toNat)
 case atStart=>exact⟨0,0,[],qal _,by omega,rfl,rfl,rfl,by simp[val],Own.none_ _ _,Ext.refl w⟩
 case round=>
  obtain⟨k,q,zs,hk,hq,rfl,rfl,hl,hv,ac,ai⟩:=hrel;have HV:=J hv;clear hv;have HL:=J hl;clear hl;have fO:=ai.size;by_cases hlt:k<xs.length
  ·have HX:=J (IN wr _ xs (k:Int) (HA.o.ext ai) (by omega));have HY:=J (IN wr _ ys (k:Int) (HB.o.ext ai) (by omega));rw[qaq]at HX HY;have fp:=an.get k;have qj:=dE.get k;have HS:=J (fun z c' h=> @RE xs ys zs k q z c' HL.o HV.o h);obtain⟨x,hxe⟩:∃x,xs.getD k 0=x:=⟨_,rfl⟩;obtain⟨y,j6⟩:∃y,ys.getD k 0=y:=⟨_,rfl⟩;rw[hxe]at HX HS fp;rw[j6]at HY HS qj;clear hxe j6;have fZ:=J (show ∀z:Nat,zs.length+[z].length<=2147483648 from fun z=>by simp[HL.o];omega);by_cases hb:x<y+q
   ·obtain⟨z,hz,nw⟩:∃z,x+4294967296*1=z+y+q/\z<4294967296:=⟨x+4294967296-(y+q),by omega,by omega⟩;have HZ:=J hz;clear hz;go_wp2_with fail;refine HX.o.mono ?_;rintro e w' ⟨rfl,rfl⟩
    go_wp2_with fail;refine HY.o.mono ?_;rintro e w' ⟨rfl,rfl⟩
    go_wp2_with (at_builtin;go_must (refine Be rfl _ _ rfl rfl (ac.ext ((Ext.refl _).alloc _)) rfl (Arr.fresh1' _ _ z (by have:=HZ.o;omega) nw) (fZ.o z) (by simp;omega) ?_;intro v' w' bf hgr hb));go_roundw
    case rel=>exact⟨k+1,1,_,by omega,by omega,by go_num,rfl,by simp[HL.o],HS.o z 1 HZ.o,bf,(ai.alloc _).more hb⟩
    case measure=>simp[intOf];omega
   ·obtain⟨z,hz,nw⟩:∃z,x+4294967296*0=z+y+q/\z<4294967296:=⟨x-(y+q),by omega,by omega⟩;have HZ:=J hz;clear hz;go_wp2_with fail;refine HX.o.mono ?_;rintro e w' ⟨rfl,rfl⟩
    go_wp2_with fail;refine HY.o.mono ?_;rintro e w' ⟨rfl,rfl⟩
    go_wp2_with (at_builtin;go_must (refine Be rfl _ _ rfl rfl (ac.ext ((Ext.refl _).alloc _)) rfl (Arr.fresh1' _ _ z (by have:=HZ.o;omega) nw) (fZ.o z) (by simp;omega) ?_;intro v' w' bf hgr hb));go_roundw
    case rel=>exact⟨k+1,0,_,by omega,by omega,by go_num,rfl,by simp[HL.o],HS.o z 0 HZ.o,bf,(ai.alloc _).more hb⟩
    case measure=>simp[intOf];omega
  ·obtain rfl:k=xs.length:=by omega
   have hval:=Tf an ac.ok (.inl (qaS (qad _))) HL.o fm.o HV.o;have HT:=D3 _ _ _ ac.arr (by rw[HL.o];omega);rw[hval]at HT;have HT:=J HT;clear hval;go_wp2_with fail;refine HT.o.mono ?_
   rintro e w2 ⟨v2,rfl,ho,hx⟩;go_wp2_with fail;go_ret2;exact⟨_,rfl,ho.mono ai.size,ai.trans hx⟩
theorem P8(w:World)(v u:Value)(xs ys:List Nat)(h:Arr w v xs)(h':Arr w u ys)(hn:xs.length<=536870912)(cC:ys.length<=1073741824):
  Calls Tryz.prog 224 #[v,u] w fun e w'=>∃v',e= .returned v'/\Own w.heap.size w' v' (Af (val xs-val ys))/\Ext w w':=by
 rcases qam (val xs) (val ys) with hlt|hle
 ·have HS:=J (Tl w v u xs ys h h' (by omega) cC hlt);have h0:val xs-val ys=0:=by omega
  rw[h0];clear h h' hlt h0;go_enter Tryz.func224,Tryz.ntmps224;go_wp2_with fail;refine HS.o.mono ?_;rintro e w' ⟨rfl,rfl⟩
  go_wp2_with fail;go_ret;exact⟨_,rfl,Own.none_ _ _,Ext.refl _⟩
 ·have HS:=J (Tm w v u xs ys h h' hn cC hle);clear h h' hle;go_enter Tryz.func224,Tryz.ntmps224;go_wp2_with fail;refine HS.o.mono ?_;rintro e w' ⟨v',rfl,ho,hx⟩
  go_wp2_with fail;go_ret;exact⟨_,rfl,ho,hx⟩
theorem SD(w:World)(v u:Value)(xs ys:List Nat)(h:Arr w v xs)(h':Arr w u ys)(hn:xs.length<=268435456)(cC:ys.length<=268435456)(hlt:val xs<val ys*4294967296):
  Calls Tryz.prog 239 #[v,u] w fun e w'=>e= .returned (.int .u32 ((val xs / val ys:Nat):Int))/\Ext w w':=by
 have HA:=J h;have HB:=J h';have bD:=J hlt;have an:=h.ok;have dE:=h'.ok;clear h h' hlt;go_enter Tryz.func239,Tryz.ntmps239;go_wp2_with fail;go_loopw [5,6] (fun lo hi wr=>∃l k:Nat,l<=k/\k<=4294967295/\lo= .int .u64 l/\hi= .int .u64 k/\val ys*l<=val xs/\val xs<val ys*(k+1)/\Ext w wr) (fun lo hi _=>(intOf hi-intOf lo).toNat)
 case atStart=>exact⟨0,4294967295,by omega,by omega,rfl,rfl,by omega,bD.o,Ext.refl w⟩
 case round=>
  obtain⟨l,k,lZ,hk,rfl,rfl,h1,h2,ai⟩:=hrel;have H1:=J h1;clear h1;have H2:=J h2;clear h2;by_cases hlt:l<k
  ·obtain⟨m,hm⟩:∃m,(l+k+1) / 2=m:=⟨_,rfl⟩;have jP:l<m:=by omega
   have cZ:m<=k:=by omega
   have rD:m<4294967296:=by omega
   have HM:=J (show ((l:Int)+(k:Int)+1) / 2=(m:Int) by omega);have hM:=HM.o;clear hm;have HS:=J (Fa wr u ys m 0 (HB.o.ext ai) (by omega) rD (by omega));have ak:=DB dE rD (show 0<4294967296 by omega);have nj:=J (show (Af (val ys*m+0)).length<=1073741824 by omega);clear ak;rw[show ((0:Nat):Int)=0 from rfl]at HS;go_wp2_with fail;refine HS.o.mono ?_
   rintro e w1 ⟨v1,rfl,ho,ar⟩;go_wp2_with fail;have eW:=GS w1 v1 v _ xs ho.arr (HA.o.ext (ai.trans ar)) nj.o (by omega);rw[Ah,qbc]at eW;by_cases hc:val ys*m<=val xs
   ·have kW:DN (val ys*m) (val xs)<=0:=by unfold DN;split<;>(try split)<;>omega
    have HC:=J hc;clear hc;have eW:=J eW;generalize DN (val ys*m) (val xs)=cc at eW kW;refine eW.o.mono ?_
    rintro e w2 ⟨rfl,rfl⟩;go_wp2_with fail;go_roundw
    case rel=>exact⟨m,k,cZ,hk,by first|rfl|exact congrArg (Value.int .u64) HM.o,rfl,HC.o,H2.o,ai.trans ar⟩
    case measure=>simp[intOf];have:=HM.o;omega
   ·have kW:¬DN (val ys*m) (val xs)<=0:=by unfold DN;split<;>(try split)<;>omega
    have dG:val xs<val ys*(m-1+1):=by rw[Nat.sub_add_cancel (by omega)];omega
    have HC:=J dG;clear hc dG;have eW:=J eW;generalize DN (val ys*m) (val xs)=cc at eW kW;refine eW.o.mono ?_
    rintro e w2 ⟨rfl,rfl⟩;go_wp2_with fail;go_roundw
    case rel=>exact⟨l,m-1,by omega,by omega,rfl,congrArg (Value.int .u64) (by have:=HM.o;omega),H1.o,HC.o,ai.trans ar⟩
    case measure=>simp[intOf];have:=HM.o;omega
  ·obtain rfl:k=l:=by omega
   have he:=O0 H1.o H2.o;have HE:=J he;clear he;go_wp2_with fail;go_ret;exact⟨congrArg (fun z:Nat=>Ending.returned (.int .u32 (z:Int))) HE.o,ai⟩
end Big
end Go.Proofs.YtkoaogkknnelaaaGreatDoor
