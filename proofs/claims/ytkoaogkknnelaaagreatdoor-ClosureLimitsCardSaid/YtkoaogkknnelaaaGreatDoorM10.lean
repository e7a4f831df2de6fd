import Derived.RegionTactic
import Derived.ChangeAlike
import Derived.Test.YtkoaogkknnelaaaGreatDoorM9
set_option linter.unusedVariables false
set_option linter.unusedSimpArgs false
namespace Go.Proofs.YtkoaogkknnelaaaGreatDoor
namespace Big
open Lib renaming hid → J
open Go.RowKit
def Sf(w0 wr:World)(B g:Nat)(bs:List UInt8)(c k:Nat):Prop:=
 ∃cur:Array Value,Blk wr g 5 cur/\cur.size=c/\Below B w0 wr/\
  (∀p,p<bs.length->cur[p]? =some (d8 (if p<k\/bs.length-k<=p then bs.getD (bs.length-1-p) 0 else bs.getD p 0)))
theorem Sf.step{w0 wr:World}{B g:Nat}{bs:List UInt8}{c k:Nat}(h:Sf w0 wr B g bs c k)(hB:B<=g)(hc:bs.length<=c)(hk:k<bs.length-1-k):
  Sf w0 (((wr.setCell ⟨g,k,none⟩ (d8 (bs.getD (bs.length-1-k) 0))).setCell ⟨g,bs.length-1-k,none⟩ (d8 (bs.getD k 0)))).drew B g bs c (k+1):=by
 obtain⟨cur,h1,h2,h3,h4⟩:=h;refine⟨_,((h1.set_ k _).set_ (bs.length-1-k) _).drew,by simp[h2],((h3.setCell hB _).setCell hB _).drew,fun p hp=> ?_⟩;rw[Array.getElem?_setIfInBounds,Array.getElem?_setIfInBounds];by_cases e1:bs.length-1-k=p
 ·subst e1;rw[if_pos rfl,if_pos (by simp;omega)];rw[if_pos (by omega)]
  congr 3
  omega
 ·rw[if_neg e1];by_cases e2:k=p
  ·subst e2;rw[if_pos rfl,if_pos (by omega),if_pos (by omega)]
  ·rw[if_neg e2,h4 p hp];by_cases e3:p<k\/bs.length-k<=p
   ·rw[if_pos e3,if_pos (by omega)]
   ·rw[if_neg e3,if_neg (by omega)]
def Pj(w0 wr:World)(out:Value)(N q k r:Nat):Prop:=
 ∃bs:List UInt8,Ih w0.heap.size wr out bs/\low N=bs++low (q*10 ^ (9-k)+r)/\r<10 ^ (9-k)/\Ext w0 wr
theorem Pj.step {w0 yo:World} {ud:Value} {N q k r:Nat} {bs:List UInt8} (hl:low N=bs++low (q*10 ^ (9-k)+r)) (hr:r<10 ^ (9-k)) (hk:k<9) (h0:q≠0\/r≠0)
  (ho:Ih w0.heap.size yo ud (bs++[UInt8.ofNat (48+r % 10)])) (he:Ext w0 yo):Pj w0 yo ud N q (k+1) (r / 10):=by
 obtain⟨h1,h2⟩:=Qc q r k hk hr h0;exact⟨_,ho,by rw[hl,h1,List.append_assoc];rfl,h2,he⟩
theorem Pj.done{w0 wr:World}{out:Value}{N q k r:Nat}(h:Pj w0 wr out N q k r)(hk:k=9\/q=0/\r=0):∃bs,Ih w0.heap.size wr out bs/\low N=bs++low q/\Ext w0 wr:=by
 obtain⟨bs,h1,h2,h3,h4⟩:=h;refine⟨bs,h1,?_,h4⟩;rcases hk with rfl|⟨rfl,rfl⟩
 ·rw[h2,Qn q r h3]
 ·rw[h2,Nat.zero_mul]
theorem Fe(w:World)(v:Value)(xs:List Nat)(m c:Nat)(h:Arr w v xs)(hn:xs.length<=536870912)(hm:m<4294967296)(hc:c<4294967296):
  Calls Tryz.prog 170 #[v,.int .u32 (m:Int),.int .u32 (c:Int)] w fun e w'=>∃v',e= .returned v'/\Own w.heap.size w' v' (Af (val xs*m+c))/\Ext w w':=by
 have HA:=J h;obtain⟨av,A,cap,rfl,dK,gP,ac⟩:=h.open;have HC:=J ac;clear h ac gP dK;go_enter Tryz.func170,Tryz.ntmps170;go_wp2_with fail;go_loopw [7,8,15] (fun out cy i wr=>∃(k q:Nat) (ys:List Nat),k<=xs.length/\q<4294967296/\i= .int .i64 k/\cy= .int .u64 q/\ys.length=k/\
   val ys+4294967296 ^ k*q=val (xs.take k)*m+c/\Own w.heap.size wr out ys/\Ext w wr) (fun _ _ i _=>xs.length-(intOf i).toNat)
 case atStart=>exact⟨0,c,[],Nat.zero_le _,hc,rfl,rfl,rfl,by simp[val],Own.none_ _ _,Ext.refl w⟩
 case round=>
  obtain⟨k,q,ys,hk,hq,rfl,rfl,hl,hv,ag,an⟩:=hrel;have HV:=J hv;clear hv;have HL:=J hl;clear hl;have tI:=an.size;by_cases hlt:k<xs.length
  ·obtain⟨b,o,rfl,hb,ac⟩:=HC.o (by omega);have hx:=(an.cell hb).trans (ac k hlt);clear ac;have fo:=av.get k;have HS:=J (I8 xs ys k m c q hlt HL.o HV.o);have hp:=IU fo hm;obtain⟨x,hxe⟩:∃x,xs.getD k 0=x:=⟨_,rfl⟩;rw[hxe]at hx fo hp HS;clear hxe;have hp':(x:Int)*(m:Int)<=18446744065119617025:=by rw[<-Int.natCast_mul];omega
   have hp0:0<=(x:Int)*(m:Int):=by rw[<-Int.natCast_mul];omega
   have hy:(q+x*m) % 4294967296<4294967296:=Nat.mod_lt _ (by omega);have HY:=J hy;clear hy;have fO:=J (show ys.length+[(q+x*m) % 4294967296].length<=2147483648 by simp[HL.o];omega);simp only[d32]at hx;go_wp2_with (at_builtin;go_must (refine Bf rfl _ _ rfl rfl (ag.ext ((Ext.refl _).alloc _)) rfl (Arr.fresh1 _ ((q+x*m) % 4294967296) HY.o) fO.o (by simp;omega) ?_;intro v' w' aA al hb));go_roundw
   case rel=>
    refine⟨k+1,(q+x*m) / 4294967296,_,by omega,Nat.div_lt_of_lt_mul (by omega),by go_num,by go_num,by simp[HL.o],HS.o,aA,(an.alloc _).more hb⟩
   case measure=>simp[intOf];omega
  ·obtain rfl:k=xs.length:=by omega
   have fO:=J (show ys.length+[q].length<=2147483648 by simp[HL.o];omega);have hval:val (ys++[q])=val xs*m+c:=by
    rw[Cm,HL.o,HV.o,List.take_of_length_le (Nat.le_refl _)]
   have WT:=J hval;clear hval;go_wp2_with (at_builtin;go_must (refine Bf rfl _ _ rfl rfl (ag.ext ((Ext.refl _).alloc _)) rfl (Arr.fresh1 _ q hq) fO.o (by simp;omega) ?_;intro v' w' aA al hb));have HT:=J (El _ _ _ aA.arr (by simp[HL.o];omega));rw[WT.o]at HT;refine HT.o.mono ?_
   rintro e w2 ⟨v2,rfl,ho,hx⟩;go_wp2_with fail;go_ret;have he:Ext w w':=(an.alloc _).more hb;exact⟨_,rfl,ho.mono he.size,he.trans hx⟩
theorem SE(w:World)(n:Nat)(h:n<18446744073709551616):
  Calls Tryz.prog 62 #[.int .u64 (n:Int)] w fun e w'=>∃v',e= .returned v'/\Own w.heap.size w' v' (Af n)/\Ext w w':=by
 have HN:=J h;clear h;go_enter Tryz.func62,Tryz.ntmps62;go_wp2_with fail;have h1:n % 4294967296<4294967296:=by omega
 have h2:n / 4294967296<4294967296:=by have:=HN.o;omega
 have HT:=El _ _ _ (Own.fresh2 w (n % 4294967296) (n / 4294967296) h1 h2).arr (by simp);have hv:val [n % 4294967296,n / 4294967296]=n:=by simp[val];omega
 rw[hv]at HT;have e1:Value.int .u32 ((n:Int) % 4294967296)=d32 (n % 4294967296):=rfl;have e2:Value.int .u32 ((n:Int) / 4294967296 % 4294967296)=d32 (n / 4294967296):=congrArg (Value.int .u32) (by have:=HN.o;omega);rw[e1,e2];clear e1 e2 hv;refine HT.mono ?_
 rintro e w2 ⟨v2,rfl,ho,hx⟩;go_wp2_with fail;go_ret;have he:Ext w (w.alloc (.cells #[d32 (n % 4294967296),d32 (n / 4294967296)] 183)):=(Ext.refl w).alloc _;exact⟨_,rfl,ho.mono he.size,he.trans hx⟩
theorem Ru(w:World)(n:Nat)(h:n<18446744073709551616):
  Calls Tryz.prog 214 #[.int .u64 (n:Int)] w fun e w'=>∃v',e= .returned v'/\Own w.heap.size w' v' (Af n)/\Ext w w':=by
 have HN:=J h;clear h;go_enter Tryz.func214,Tryz.ntmps214;go_wp2_with fail;have h1:n % 4294967296<4294967296:=by omega
 have h2:n / 4294967296<4294967296:=by have:=HN.o;omega
 have HT:=BU _ _ _ (Own.fresh2 w (n % 4294967296) (n / 4294967296) h1 h2).arr (by simp);have hv:val [n % 4294967296,n / 4294967296]=n:=by simp[val];omega
 rw[hv]at HT;have e1:Value.int .u32 ((n:Int) % 4294967296)=d32 (n % 4294967296):=rfl;have e2:Value.int .u32 ((n:Int) / 4294967296 % 4294967296)=d32 (n / 4294967296):=congrArg (Value.int .u32) (by have:=HN.o;omega);rw[e1,e2];clear e1 e2 hv;refine HT.mono ?_
 rintro e w2 ⟨v2,rfl,ho,hx⟩;go_wp2_with fail;go_ret;have he:Ext w (w.alloc (.cells #[d32 (n % 4294967296),d32 (n / 4294967296)] 183)):=(Ext.refl w).alloc _;exact⟨_,rfl,ho.mono he.size,he.trans hx⟩
theorem SB(w:World)(v u:Value)(xs ys:List Nat)(h:Arr w v xs)(h':Arr w u ys)(hn:xs.length<=1073741824)(ck:ys.length<=1073741824)(hlt:val xs<val ys):
  Calls Tryz.prog 259 #[v,u] w fun e w'=>e= .returned (.tuple #[.slice none 0 0,.bool false])/\w=w':=by
 have HC:=GY w v u xs ys h h' hn ck;rw[Gh hlt]at HC;have HC:=J HC;clear h h' hlt;go_enter Tryz.func259,Tryz.ntmps259;go_wp2_with fail;refine HC.o.mono ?_;rintro e w' ⟨rfl,rfl⟩
 go_wp2_with fail;go_ret2;exact⟨rfl,rfl⟩
theorem SC(w:World)(v u:Value)(xs ys:List Nat)(h:Arr w v xs)(h':Arr w u ys)(hn:xs.length<=536870912)(ck:ys.length<=1073741824)(hle:val ys<=val xs):
  Calls Tryz.prog 259 #[v,u] w fun e w'=>∃v',e= .returned (.tuple #[v',.bool true])/\Own w.heap.size w' v' (Af (val xs-val ys))/\Ext w w':=by
 have HC:=J (GY w v u xs ys h h' (by omega) ck);have HA:=J h;have HB:=J h';obtain⟨av,A,c,rfl,hc,hm,ac⟩:=h.open;obtain⟨dq,A',c',rfl,hc',pF,bw⟩:=h'.open;have kA:¬DY (val xs) (val ys)<0:=by rw[JZ];omega
 have dN:=J hle;clear h h' ac bw hm pF hc hc' hle;generalize DY (val xs) (val ys)=cc at HC kA;go_enter Tryz.func259,Tryz.ntmps259;go_wp2_with fail;refine HC.o.mono ?_;rintro e w' ⟨rfl,rfl⟩
 go_wp2_with fail;go_loopw [6,7,8] (fun out cy i wr=>∃(k q:Nat) (zs:List Nat),k<=xs.length/\q<=1/\i= .int .i64 k/\cy= .int .u64 q/\zs.length=k/\
   val (xs.take k)+4294967296 ^ k*q=val zs+val (ys.take k)/\Own w.heap.size wr out zs/\Ext w wr) (fun _ _ i _=>xs.length-(intOf i).toNat)
 case atStart=>exact⟨0,0,[],Nat.zero_le _,by omega,rfl,rfl,rfl,by simp[val],Own.none_ _ _,Ext.refl w⟩
 case round=>
  obtain⟨k,q,zs,hk,hq,rfl,rfl,hl,hv,ag,an⟩:=hrel;have HV:=J hv;clear hv;have HL:=J hl;clear hl;have tI:=an.size;by_cases hlt:k<xs.length
  ·have HX:=J (IT wr _ xs (k:Int) (HA.o.ext an) (by omega));have HY:=J (IT wr _ ys (k:Int) (HB.o.ext an) (by omega));rw[Int.toNat_natCast]at HX HY;have fo:=av.get k;have pq:=dq.get k;have HS:=J (fun z c' h=> @Q5 xs ys zs k q z c' HL.o HV.o h);obtain⟨x,hxe⟩:∃x,xs.getD k 0=x:=⟨_,rfl⟩;obtain⟨y,fm⟩:∃y,ys.getD k 0=y:=⟨_,rfl⟩;rw[hxe]at HX HS fo;rw[fm]at HY HS pq;clear hxe fm;have fO:=J (show ∀z:Nat,zs.length+[z].length<=2147483648 from fun z=>by simp[HL.o];omega);by_cases hb:x<y+q
   ·obtain⟨z,hz,mO⟩:∃z,x+4294967296*1=z+y+q/\z<4294967296:=⟨x+4294967296-(y+q),by omega,by omega⟩;have HZ:=J hz;clear hz;go_wp2_with fail;refine HX.o.mono ?_;rintro e w' ⟨rfl,rfl⟩
    go_wp2_with fail;refine HY.o.mono ?_;rintro e w' ⟨rfl,rfl⟩
    go_wp2_with (at_builtin;go_must (refine Bf rfl _ _ rfl rfl (ag.ext ((Ext.refl _).alloc _)) rfl (Arr.fresh1' _ _ z (by have:=HZ.o;omega) mO) (fO.o z) (by simp;omega) ?_;intro v' w' aA al hb));go_roundw
    case rel=>exact⟨k+1,1,_,by omega,by omega,by go_num,rfl,by simp[HL.o],HS.o z 1 HZ.o,aA,(an.alloc _).more hb⟩
    case measure=>simp[intOf];omega
   ·obtain⟨z,hz,mO⟩:∃z,x+4294967296*0=z+y+q/\z<4294967296:=⟨x-(y+q),by omega,by omega⟩;have HZ:=J hz;clear hz;go_wp2_with fail;refine HX.o.mono ?_;rintro e w' ⟨rfl,rfl⟩
    go_wp2_with fail;refine HY.o.mono ?_;rintro e w' ⟨rfl,rfl⟩
    go_wp2_with (at_builtin;go_must (refine Bf rfl _ _ rfl rfl (ag.ext ((Ext.refl _).alloc _)) rfl (Arr.fresh1' _ _ z (by have:=HZ.o;omega) mO) (fO.o z) (by simp;omega) ?_;intro v' w' aA al hb));go_roundw
    case rel=>exact⟨k+1,0,_,by omega,by omega,by go_num,rfl,by simp[HL.o],HS.o z 0 HZ.o,aA,(an.alloc _).more hb⟩
    case measure=>simp[intOf];omega
  ·obtain rfl:k=xs.length:=by omega
   have hval:=Sv av ag.ok (.inl (List.drop_eq_nil_of_le (Nat.le_refl _))) HL.o dN.o HV.o;have HT:=El _ _ _ ag.arr (by rw[HL.o];omega);rw[hval]at HT;have HT:=J HT;clear hval;go_wp2_with fail;refine HT.o.mono ?_
   rintro e w2 ⟨v2,rfl,ho,hx⟩;go_wp2_with fail;go_ret2;exact⟨_,rfl,ho.mono an.size,an.trans hx⟩
theorem PL(w:World)(v u:Value)(xs ys:List Nat)(h:Arr w v xs)(h':Arr w u ys)(hn:xs.length<=536870912)(ck:ys.length<=1073741824):
  Calls Tryz.prog 224 #[v,u] w fun e w'=>∃v',e= .returned v'/\Own w.heap.size w' v' (Af (val xs-val ys))/\Ext w w':=by
 rcases Nat.lt_or_ge (val xs) (val ys) with hlt|hle
 ·have HS:=J (SB w v u xs ys h h' (by omega) ck hlt);have h0:val xs-val ys=0:=by omega
  rw[h0];clear h h' hlt h0;go_enter Tryz.func224,Tryz.ntmps224;go_wp2_with fail;refine HS.o.mono ?_;rintro e w' ⟨rfl,rfl⟩
  go_wp2_with fail;go_ret;exact⟨_,rfl,Own.none_ _ _,Ext.refl _⟩
 ·have HS:=J (SC w v u xs ys h h' hn ck hle);clear h h' hle;go_enter Tryz.func224,Tryz.ntmps224;go_wp2_with fail;refine HS.o.mono ?_;rintro e w' ⟨v',rfl,ho,hx⟩
  go_wp2_with fail;go_ret;exact⟨_,rfl,ho,hx⟩
theorem RR(w:World)(v u:Value)(xs ys:List Nat)(h:Arr w v xs)(h':Arr w u ys)(hn:xs.length<=268435456)(ck:ys.length<=268435456)(hlt:val xs<val ys*4294967296):
  Calls Tryz.prog 239 #[v,u] w fun e w'=>e= .returned (.int .u32 ((val xs / val ys:Nat):Int))/\Ext w w':=by
 have HA:=J h;have HB:=J h';have aW:=J hlt;have av:=h.ok;have dq:=h'.ok;clear h h' hlt;go_enter Tryz.func239,Tryz.ntmps239;go_wp2_with fail;go_loopw [5,6] (fun lo hi wr=>∃l k:Nat,l<=k/\k<=4294967295/\lo= .int .u64 l/\hi= .int .u64 k/\val ys*l<=val xs/\val xs<val ys*(k+1)/\Ext w wr) (fun lo hi _=>(intOf hi-intOf lo).toNat)
 case atStart=>exact⟨0,4294967295,by omega,by omega,rfl,rfl,by omega,aW.o,Ext.refl w⟩
 case round=>
  obtain⟨l,k,kv,hk,rfl,rfl,h1,h2,an⟩:=hrel;have H1:=J h1;clear h1;have H2:=J h2;clear h2;by_cases hlt:l<k
  ·obtain⟨m,hm⟩:∃m,(l+k+1) / 2=m:=⟨_,rfl⟩;have kO:l<m:=by omega
   have lB:m<=k:=by omega
   have vg:m<4294967296:=by omega
   have HM:=J (show ((l:Int)+(k:Int)+1) / 2=(m:Int) by omega);have hM:=HM.o;clear hm;have HS:=J (Fe wr u ys m 0 (HB.o.ext an) (by omega) vg (by omega));have ao:=DM dq vg (show 0<4294967296 by omega);have qf:=J (show (Af (val ys*m+0)).length<=1073741824 by omega);clear ao;rw[show ((0:Nat):Int)=0 from rfl]at HS;go_wp2_with fail;refine HS.o.mono ?_
   rintro e w1 ⟨v1,rfl,ho,am⟩;go_wp2_with fail;have eZ:=GY w1 v1 v _ xs ho.arr (HA.o.ext (an.trans am)) qf.o (by omega);rw[Ah,Nat.add_zero]at eZ;by_cases hc:val ys*m<=val xs
   ·have kA:DY (val ys*m) (val xs)<=0:=by unfold DY;split<;>(try split)<;>omega
    have HC:=J hc;clear hc;have eZ:=J eZ;generalize DY (val ys*m) (val xs)=cc at eZ kA;refine eZ.o.mono ?_
    rintro e w2 ⟨rfl,rfl⟩;go_wp2_with fail;go_roundw
    case rel=>exact⟨m,k,lB,hk,by first|rfl|exact congrArg (Value.int .u64) HM.o,rfl,HC.o,H2.o,an.trans am⟩
    case measure=>simp[intOf];have:=HM.o;omega
   ·have kA:¬DY (val ys*m) (val xs)<=0:=by unfold DY;split<;>(try split)<;>omega
    have hc2:val xs<val ys*(m-1+1):=by rw[Nat.sub_add_cancel (by omega)];omega
    have HC:=J hc2;clear hc hc2;have eZ:=J eZ;generalize DY (val ys*m) (val xs)=cc at eZ kA;refine eZ.o.mono ?_
    rintro e w2 ⟨rfl,rfl⟩;go_wp2_with fail;go_roundw
    case rel=>exact⟨l,m-1,by omega,by omega,rfl,congrArg (Value.int .u64) (by have:=HM.o;omega),H1.o,HC.o,an.trans am⟩
    case measure=>simp[intOf];have:=HM.o;omega
  ·obtain rfl:k=l:=by omega
   have he:=OF H1.o H2.o;have HE:=J he;clear he;go_wp2_with fail;go_ret;exact⟨congrArg (fun z:Nat=>Ending.returned (.int .u32 (z:Int))) HE.o,an⟩
end Big
end Go.Proofs.YtkoaogkknnelaaaGreatDoor
