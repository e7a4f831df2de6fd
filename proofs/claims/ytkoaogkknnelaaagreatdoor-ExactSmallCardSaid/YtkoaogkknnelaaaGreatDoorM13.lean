import Derived.Test.YtkoaogkknnelaaaGreatDoorM12
set_option linter.unusedVariables false
set_option linter.unusedSimpArgs false
namespace Go.Proofs.YtkoaogkknnelaaaGreatDoor
namespace Big
open Lib (hid)
open Go.RowKit
theorem S4(w:World)(v u:Value)(xs ys:List Nat)(h:Arr w v xs)(h':Arr w u ys)(hn:xs.length<=1073741824)(bu:ys.length<=1073741824)(hlt:val xs<val ys):
  Calls Tryz.prog 259 #[v,u] w fun e w'=>e= .returned (.tuple #[.slice none 0 0,.bool false])/\w=w':=by
 have HC:=Dv w v u xs ys h h' hn bu;rw[EX hlt]at HC;have HC:=hid HC;clear h h' hlt;go_enter Tryz.func259,Tryz.ntmps259;go_wp2_with fail;refine HC.out.mono ?_;rintro e w' ⟨rfl,rfl⟩
 go_wp2_with fail;go_ret2;exact⟨rfl,rfl⟩
theorem S5(w:World)(v u:Value)(xs ys:List Nat)(h:Arr w v xs)(h':Arr w u ys)(hn:xs.length<=536870912)(bu:ys.length<=1073741824)(cp:val ys<=val xs):
  Calls Tryz.prog 259 #[v,u] w fun e w'=>∃v',e= .returned (.tuple #[v',.bool true])/\Own w.heap.size w' v' (Ac (val xs-val ys))/\Ext w w':=by
 have HC:=hid (Dv w v u xs ys h h' (by omega) bu);have HA:=hid h;have HB:=hid h';obtain⟨az,A,c,rfl,hc,hm,aa⟩:=h.open;obtain⟨bM,A',c',rfl,fW,me,ao⟩:=h'.open;have fV:¬BS (val xs) (val ys)<0:=by rw[D7];omega
 have ge:=hid cp;clear h h' aa ao hm me hc fW cp;generalize BS (val xs) (val ys)=cc at HC fV;go_enter Tryz.func259,Tryz.ntmps259;go_wp2_with fail;refine HC.out.mono ?_;rintro e w' ⟨rfl,rfl⟩
 go_wp2_with fail;go_loopw [6,7,8] (fun out cy i wr=>∃(k q:Nat) (zs:List Nat),k<=xs.length/\q<=1/\i= .int .i64 k/\cy= .int .u64 q/\zs.length=k/\
   val (xs.take k)+4294967296 ^ k*q=val zs+val (ys.take k)/\Own w.heap.size wr out zs/\Ext w wr) (fun _ _ i _=>xs.length-(intOf i).toNat)
 case atStart=>exact⟨0,0,[],Nat.zero_le _,by omega,rfl,rfl,rfl,by simp[val],Own.none_ _ _,Ext.refl w⟩
 case round=>
  obtain⟨k,q,zs,hk,hq,rfl,rfl,hl,hv,aG,ah⟩:=hrel;have HV:=hid hv;clear hv;have HL:=hid hl;clear hl;have ri:=ah.size;by_cases hlt:k<xs.length
  ·have HX:=hid (Do wr _ xs (k:Int) (HA.out.ext ah) (by omega));have HY:=hid (Do wr _ ys (k:Int) (HB.out.ext ah) (by omega));rw[Int.toNat_natCast]at HX HY;have cK:=az.get k;have fT:=bM.get k;have HS:=hid (fun z c' h=> @LP xs ys zs k q z c' HL.out HV.out h);obtain⟨x,bN⟩:∃x,xs.getD k 0=x:=⟨_,rfl⟩;obtain⟨y,dR⟩:∃y,ys.getD k 0=y:=⟨_,rfl⟩;rw[bN]at HX HS cK;rw[dR]at HY HS fT;clear bN dR;have dN:=hid (show ∀z:Nat,zs.length+[z].length<=2147483648 from fun z=>by simp[HL.out];omega);by_cases hb:x<y+q
   ·obtain⟨z,hz,je⟩:∃z,x+4294967296*1=z+y+q/\z<4294967296:=⟨x+4294967296-(y+q),by omega,by omega⟩;have HZ:=hid hz;clear hz;go_wp2_with fail;refine HX.out.mono ?_;rintro e w' ⟨rfl,rfl⟩
    go_wp2_with fail;refine HY.out.mono ?_;rintro e w' ⟨rfl,rfl⟩
    go_wp2_with (at_builtin;go_must (refine AP rfl _ _ rfl rfl (aG.ext ((Ext.refl _).alloc _)) rfl (Arr.fresh1' _ _ z (by have:=HZ.out;omega) je) (dN.out z) (by simp;omega) ?_;intro v' w' dh aQ hb));go_roundw
    case rel=>exact⟨k+1,1,_,by omega,by omega,by go_num,rfl,by simp[HL.out],HS.out z 1 HZ.out,dh,(ah.alloc _).more hb⟩
    case measure=>simp[intOf];omega
   ·obtain⟨z,hz,je⟩:∃z,x+4294967296*0=z+y+q/\z<4294967296:=⟨x-(y+q),by omega,by omega⟩;have HZ:=hid hz;clear hz;go_wp2_with fail;refine HX.out.mono ?_;rintro e w' ⟨rfl,rfl⟩
    go_wp2_with fail;refine HY.out.mono ?_;rintro e w' ⟨rfl,rfl⟩
    go_wp2_with (at_builtin;go_must (refine AP rfl _ _ rfl rfl (aG.ext ((Ext.refl _).alloc _)) rfl (Arr.fresh1' _ _ z (by have:=HZ.out;omega) je) (dN.out z) (by simp;omega) ?_;intro v' w' dh aQ hb));go_roundw
    case rel=>exact⟨k+1,0,_,by omega,by omega,by go_num,rfl,by simp[HL.out],HS.out z 0 HZ.out,dh,(ah.alloc _).more hb⟩
    case measure=>simp[intOf];omega
  ·obtain rfl:k=xs.length:=by omega
   have bd:=Om az aG.ok (.inl (List.drop_eq_nil_of_le (Nat.le_refl _))) HL.out ge.out HV.out;have HT:=B9 _ _ _ aG.arr (by rw[HL.out];omega);rw[bd]at HT;have HT:=hid HT;clear bd;go_wp2_with fail;refine HT.out.mono ?_
   rintro e w2 ⟨v2,rfl,ho,hx⟩;go_wp2_with fail;go_ret2;exact⟨_,rfl,ho.mono ah.size,ah.trans hx⟩
theorem FD(w:World)(v u:Value)(xs ys:List Nat)(h:Arr w v xs)(h':Arr w u ys)(hn:xs.length<=536870912)(bu:ys.length<=1073741824):
  Calls Tryz.prog 224 #[v,u] w fun e w'=>∃v',e= .returned v'/\Own w.heap.size w' v' (Ac (val xs-val ys))/\Ext w w':=by
 rcases Nat.lt_or_ge (val xs) (val ys) with hlt|cp
 ·have HS:=hid (S4 w v u xs ys h h' (by omega) bu hlt);have h0:val xs-val ys=0:=by omega
  rw[h0];clear h h' hlt h0;go_enter Tryz.func224,Tryz.ntmps224;go_wp2_with fail;refine HS.out.mono ?_;rintro e w' ⟨rfl,rfl⟩
  go_wp2_with fail;go_ret;exact⟨_,rfl,Own.none_ _ _,Ext.refl _⟩
 ·have HS:=hid (S5 w v u xs ys h h' hn bu cp);clear h h' cp;go_enter Tryz.func224,Tryz.ntmps224;go_wp2_with fail;refine HS.out.mono ?_;rintro e w' ⟨v',rfl,ho,hx⟩
  go_wp2_with fail;go_ret;exact⟨_,rfl,ho,hx⟩
theorem Sk(w:World)(v u:Value)(xs ys:List Nat)(h:Arr w v xs)(h':Arr w u ys)(hn:xs.length<=268435456)(bu:ys.length<=268435456)(hlt:val xs<val ys*4294967296):
  Calls Tryz.prog 239 #[v,u] w fun e w'=>e= .returned (.int .u32 ((val xs / val ys:Nat):Int))/\Ext w w':=by
 have HA:=hid h;have HB:=hid h';have dM:=hid hlt;have az:=h.ok;have bM:=h'.ok;clear h h' hlt;go_enter Tryz.func239,Tryz.ntmps239;go_wp2_with fail;go_loopw [5,6] (fun lo hi wr=>∃l k:Nat,l<=k/\k<=4294967295/\lo= .int .u64 l/\hi= .int .u64 k/\val ys*l<=val xs/\val xs<val ys*(k+1)/\Ext w wr) (fun lo hi _=>(intOf hi-intOf lo).toNat)
 case atStart=>exact⟨0,4294967295,by omega,by omega,rfl,rfl,by omega,dM.out,Ext.refl w⟩
 case round=>
  obtain⟨l,k,tV,hk,rfl,rfl,h1,h2,ah⟩:=hrel;have H1:=hid h1;clear h1;have H2:=hid h2;clear h2;by_cases hlt:l<k
  ·obtain⟨m,hm⟩:∃m,(l+k+1) / 2=m:=⟨_,rfl⟩;have gM:l<m:=by omega
   have mc:m<=k:=by omega
   have tT:m<4294967296:=by omega
   have HM:=hid (show ((l:Int)+(k:Int)+1) / 2=(m:Int) by omega);have hM:=HM.out;clear hm;have HS:=hid (EM wr u ys m 0 (HB.out.ext ah) (by omega) tT (by omega));have aF:=Dk bM tT (show 0<4294967296 by omega);have pR:=hid (show (Ac (val ys*m+0)).length<=1073741824 by omega);clear aF;rw[show ((0:Nat):Int)=0 from rfl]at HS;go_wp2_with fail;refine HS.out.mono ?_
   rintro e w1 ⟨v1,rfl,ho,ag⟩;go_wp2_with fail;have cI:=Dv w1 v1 v _ xs ho.arr (HA.out.ext (ah.trans ag)) pR.out (by omega);rw[Ad,Nat.add_zero]at cI;by_cases hc:val ys*m<=val xs
   ·have fV:BS (val ys*m) (val xs)<=0:=by unfold BS;split<;>(try split)<;>omega
    have HC:=hid hc;clear hc;have cI:=hid cI;generalize BS (val ys*m) (val xs)=cc at cI fV;refine cI.out.mono ?_
    rintro e w2 ⟨rfl,rfl⟩;go_wp2_with fail;go_roundw
    case rel=>exact⟨m,k,mc,hk,by first|rfl|exact congrArg (Value.int .u64) HM.out,rfl,HC.out,H2.out,ah.trans ag⟩
    case measure=>simp[intOf];have:=HM.out;omega
   ·have fV:¬BS (val ys*m) (val xs)<=0:=by unfold BS;split<;>(try split)<;>omega
    have cW:val xs<val ys*(m-1+1):=by rw[Nat.sub_add_cancel (by omega)];omega
    have HC:=hid cW;clear hc cW;have cI:=hid cI;generalize BS (val ys*m) (val xs)=cc at cI fV;refine cI.out.mono ?_
    rintro e w2 ⟨rfl,rfl⟩;go_wp2_with fail;go_roundw
    case rel=>exact⟨l,m-1,by omega,by omega,rfl,congrArg (Value.int .u64) (by have:=HM.out;omega),H1.out,HC.out,ah.trans ag⟩
    case measure=>simp[intOf];have:=HM.out;omega
  ·obtain rfl:k=l:=by omega
   have he:=N8 H1.out H2.out;have HE:=hid he;clear he;go_wp2_with fail;go_ret;exact⟨congrArg (fun z:Nat=>Ending.returned (.int .u32 (z:Int))) HE.out,ah⟩
def U8(w0 wr:World)(rv:Value)(xs:List Nat)(b k r:Nat):Prop:=
 ∃qs:List Nat,k+qs.length=xs.length/\Ok qs/\val qs*b+r=val (xs.drop k)/\
  Blk wr w0.heap.size 183 (cells (List.replicate k 0++qs))/\Arr wr rv (Ac r)/\Ext w0 wr
theorem H9(w:World)(v u:Value)(xs ys:List Nat)(h:Arr w v xs)(h':Arr w u ys)(hn:xs.length<=134217728)(bu:ys.length<=134217728)(hy:0<val ys):
  Calls Tryz.prog 205 #[v,u] w fun e w'=>∃v' u',e= .returned (.tuple #[v',u',.bool true])/\Own w.heap.size w' v' (Ac (val xs / val ys))/\Arr w' u' (Ac (val xs % val ys))/\Ext w w':=by
 have HA:=hid h;have HB:=hid h';obtain⟨az,A,c,rfl,hc,hm,aa⟩:=h.open;obtain⟨bM,A',c',rfl,fW,me,ao⟩:=h'.open;have HC:=hid aa;have gw:0<ys.length:=by
  rcases Nat.eq_zero_or_pos ys.length with h0|h0
  ·have:=List.eq_nil_of_length_eq_zero h0;subst this;simp[val]at hy
  ·exact h0
 have jj:((ys.length:Int) == 0)=false:=by rw[beq_eq_false_iff_ne];omega
 have df:=Cg xs.length (by omega);clear h h' aa ao hm me hc fW;go_enter Tryz.func205,Tryz.ntmps205;go_wp2_with fail;clear df;go_loopw [8,9] (fun rv i wr=>∃k r:Nat,k<=xs.length/\r<val ys/\i= .int .i64 ((k:Int)-1)/\U8 w wr rv xs (val ys) k r) (fun _ i _=>(intOf i+1).toNat)
 case atStart=>exact⟨xs.length,0,Nat.le_refl _,hy,rfl,[],rfl,Cj,by simp[val],by simpa [Ed] using Blk.new w 183 (zeros xs.length),Arr.none_ _,(Ext.refl w).alloc _⟩
 case round=>
  obtain⟨k,r,hk,hr,rfl,qs,hl,l9,hv,ay,zR,ah⟩:=hrel;have HV:=hid hv;clear hv;have ek:=hid ay;clear ay;have HL:=hid hl;clear hl;have HR:=hid hr;clear hr;have HY:=hid hy;clear hy;rcases Nat.eq_zero_or_pos k with h0|h0
  ·subst h0;obtain⟨iB,nB⟩:=K7 HR.out (by simpa using HV.out);have aF:qs.length=xs.length:=by simpa using HL.out
   have aA:Own w.heap.size wr (.slice (some ⟨w.heap.size,0,none⟩) xs.length xs.length) qs:=by
    have h3:=Own.block (B:=w.heap.size) l9 (by simpa using ek.out) (Nat.le_refl _) (by omega)
    rwa [aF]at h3
   have HT:=hid (B9 _ _ _ aA.arr (by omega));rw[iB]at HT;rw[nB]at zR;clear iB nB aA aF;go_wp2_with fail;refine HT.out.mono ?_
   rintro e w' ⟨v',rfl,ho,hx⟩;go_wp2_with fail;go_ret3;exact⟨_,_,rfl,ho.mono ah.size,zR.ext hx,ah.trans hx⟩
  ·obtain⟨m,rfl⟩:∃m,k=m+1:=⟨k-1,by omega⟩;obtain⟨b,o,rfl,hb,aa⟩:=HC.out (by omega);have hx:=(ah.cell hb).trans (aa m (by omega));clear aa;have cK:=az.get m;have HS:=hid (Sr (k:=m) HV.out);obtain⟨x,bN⟩:∃x,xs.getD m 0=x:=⟨_,rfl⟩;rw[bN]at hx cK HS;clear bN;have ri:=ah.size;have ky:=ID bM (Nat.le_of_lt HR.out);have dN:=hid (show [x].length+(Ac r).length<=2147483648 by simp;omega);simp only[d32]at hx;go_wp2_with (at_builtin;go_must (refine AP rfl _ _ rfl rfl (Own.fresh1' _ _ x rfl cK) rfl (zR.ext ((Ext.refl _).alloc _)) dN.out (by simp) ?_;intro v1 w1 qh aQ al));have he1:Ext wr w1:=((Ext.refl wr).alloc _).more al;have bd:val ([x]++Ac r)=x+4294967296*r:=by simp[val,Ad]
   have HT:=B9 w1 v1 _ qh.arr (by simp;omega);rw[bd]at HT;have t7:=Uv HR.out cK;have jH:=Qq HR.out cK;have XP:=Jx bM jH;have gp:=Nat.mod_lt (x+4294967296*r) HY.out;clear bd aQ qh;obtain⟨N,hN⟩:∃N,x+4294967296*r=N:=⟨_,rfl⟩;rw[hN]at HT HS t7 jH XP gp;clear hN;have We:=hid gp;clear gp;have ez:=hid jH;clear jH;refine HT.mono ?_
   rintro e w2 ⟨v2,rfl,cU,ae⟩;have he2:=ah.trans (he1.trans ae);have cI:=Dv w2 v2 _ _ ys cU.arr (HB.out.ext he2) (by omega) (by omega);rw[Ad]at cI;rcases Nat.lt_or_ge N (val ys) with hlt|fE
   ·have fV:¬0<=BS N (val ys):=by rw[EX hlt];omega
    have HZ:=hid (Nat.div_eq_of_lt hlt);have sO:=hid (Nat.mod_eq_of_lt hlt);have dM:=hid hlt;clear hlt t7 HT XP;have cI:=hid cI;generalize BS N (val ys)=cc at cI fV;go_wp2_with fail;refine cI.out.mono ?_;rintro e w3 ⟨rfl,rfl⟩
    go_wp2_with fail;go_roundw
    case rel=>
     refine⟨m,N,by omega,dM.out,rfl,0::qs,by have:=HL.out;simp;omega,Dq (by omega) l9,?_,?_,cU.arr,he2⟩
     ·have:=HS.out;rw[HZ.out,sO.out]at this;exact this
     ·have h1:=ek.out.ext (he1.trans ae);rw[List.replicate_succ',List.append_assoc]at h1;exact h1
    case measure=>simp[intOf]
   ·have fV:0<=BS N (val ys):=by unfold BS;split<;>(try split)<;>omega
    have HGE:=hid fE;clear fE;have cI:=hid cI;generalize BS N (val ys)=cc at cI fV;go_wp2_with fail;refine cI.out.mono ?_;rintro e w3 ⟨rfl,rfl⟩
    have HF:=Sk w2 v2 _ _ ys cU.arr (HB.out.ext he2) (by omega) (by omega) (by rw[Ad];exact ez.out);rw[Ad]at HF;have qe:N-(val ys*(N / val ys)+0)=N % val ys:=by
     have:=Nat.div_add_mod N (val ys);omega
    have kG:=hid qe;clear qe;have uF:(Ac (val ys*(N / val ys)+0)).length<=ys.length+1:=Dk bM t7 (by omega);obtain⟨q,hq⟩:∃q,N / val ys=q:=⟨_,rfl⟩;rw[hq]at HF t7 HS kG uF;clear hq;go_wp2_with fail;refine HF.mono ?_
    rintro e w3 ⟨rfl,ab⟩;have he3:=he2.trans ab;have pF:=ek.out.ext ((he1.trans ae).trans ab);have hst:=pF.cell m;have iD:=pF.frozen m;rw[Be _ _ (by simp;omega)]at hst;simp only[d32]at hst;have a8:=hid pF;clear pF;go_wp2_with fail;have zw:w.heap.size<w1.heap.size:=by have:=he1.size;have:=ek.out.lt;omega
    have ZX:=(cU.ext ab).far (p:=⟨w.heap.size,m,none⟩) zw (d32 q);have fU:Ext w (w3.setCell ⟨w.heap.size,m,none⟩ (d32 q)):=he3.setCell (Nat.le_refl _) _;have sl:=a8.out.set_ m (d32 q);rw[Bx,I1]at sl;have wh:=EM (w3.setCell ⟨w.heap.size,m,none⟩ (d32 q)) _ ys q 0 (HB.out.ext fU) (by omega) t7 (by omega);rw[show ((0:Nat):Int)=0 from rfl]at wh;have gJ:=hid sl;clear sl;refine wh.mono ?_
    rintro e w5 ⟨v5,rfl,pw,hx5⟩;go_wp2_with fail;have mT:=FD w5 v2 v5 _ _ (ZX.ext hx5).arr pw.arr (by omega) (by omega);rw[Ad,Ad,kG.out]at mT;refine mT.mono ?_
    rintro e w6 ⟨v6,rfl,iC,cZ⟩;go_wp2_with fail;go_roundw
    case rel=>exact⟨m,N % val ys,by omega,We.out,rfl,q::qs,by have:=HL.out;simp;omega,Dq t7 l9,HS.out,(gJ.out.ext hx5).ext cZ,iC.arr,fU.trans (hx5.trans cZ)⟩
    case measure=>simp[intOf]
end Big
end Go.Proofs.YtkoaogkknnelaaaGreatDoor
