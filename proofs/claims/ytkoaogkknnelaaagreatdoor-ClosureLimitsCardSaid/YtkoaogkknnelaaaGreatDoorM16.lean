import Derived.Test.YtkoaogkknnelaaaGreatDoorM15
import Derived.Laws.Closers25
import Derived.Deep.AppendLies
import Derived.Lib.MinMax
set_option linter.unusedVariables false
set_option linter.unusedSimpArgs false
set_option maxHeartbeats 4000000
set_option maxRecDepth 100000
namespace Go.Proofs.YtkoaogkknnelaaaGreatDoor
namespace Big
open Lib renaming hid → J
open Go.RowKit
theorem MI(n:Nat)(d:Nat):MJ (n:Int) ((d:Nat):Int)=MM (n:Int) d/\MK (n:Int) ((d:Nat):Int)=MO (n:Int) d:=by
 unfold MJ MM MK MO;have h1:decide ((n:Int)<0)=false:=by simp
 have h2:decide ((d:Int)<0)=false:=by simp
 rw[h1,h2,Int.natAbs_natCast,Int.natAbs_natCast];exact⟨rfl,rfl⟩
theorem Lr(w:World)(l:List UInt8)(h:400<l.length):Calls Tryz.prog 126 #[str l] w (Gl w l):=by
 have hc:Bs l=7:=if_pos h;have h':(400:Int)<(l.length:Int):=by omega
 have HC:=J hc;clear h hc;go_enter Tryz.func126,Tryz.ntmps126;go_wp2_with fail;refine bodyPost_ret (v:= .tuple #[.agg #[.bool false,.slice none 0 0,.slice none 0 0],.int .i64 7]) (by simp[results,Tryz.results126,go_sem]) rfl ?_
 exact⟨_,by rw[HC.o];rfl,by rw[HC.o];exact BB.zero _ _,(Ext.refl w).alloc _⟩
theorem Iq(w:World)(l:List UInt8):Calls Tryz.prog 126 #[str l] w (Gl w l):=by
 rcases Nat.lt_or_ge 400 l.length with hl|hl
 ·exact Lr w l hl
 have HD:=J (fun W=>Ls W l (by omega));have wi:¬(400:Int)<(l.length:Int):=by omega
 cases hg:CU l
 ·have HC:Hid (Bs l=6):=J (by unfold Bs;rw[if_neg (by omega),hg];rfl);have HG:=J hg;clear hg;go_enter Tryz.func126,Tryz.ntmps126;go_wp2_with fail;refine(HD.o _).mono ?_
  rintro e w1 ⟨a,b,rfl,_,am⟩;rw[HG.o];have ah:=J (((Ext.refl w).alloc (.cells #[.bool false,.slice none 0 0,.slice none 0 0] 26)).trans am);have hk:=(Blk.new w 26 #[.bool false,.slice none 0 0,.slice none 0 0]).ext am;have aM:=J hk;have k0:=hk.three;clear am hk;go_wp2_with fail;obtain⟨e9,cI,hr2⟩:=Cb aM.o (.bool false) (.slice none 0 0) (.slice none 0 0);refine bodyPost_ret (v:= .tuple #[.agg #[.bool false,.slice none 0 0,.slice none 0 0],.int .i64 6]) (by simp[results,Tryz.results126,go_sem,e9,cI,hr2]) rfl ?_
  exact⟨_,by rw[HC.o];rfl,by rw[HC.o];exact BB.zero _ _,((ah.o.setCell (Nat.le_refl _) _).setCell (Nat.le_refl _) _).setCell (Nat.le_refl _) _⟩
 ·have HC:Hid (Bs l=0):=J (by unfold Bs;rw[if_neg (by omega),hg];rfl);have HG:=J hg;have hall:D4 l=true:=by
   rw[Cn,Bool.and_eq_true]at hg;exact hg.2
  have hpl:(Ba l).length<=l.length:=by
   rcases Co l with ⟨_,h1⟩|⟨_,_,h2⟩
   ·have:=congrArg List.length h1;simp at this;omega
   ·rw[h2];simp
  have nA:=I6 l;have mB:Hid (Tn l=MM (Bi (whole l++Ba l)) (10 ^ (Ba l).length)):=J rfl;have ql:Hid (Ts l=MO (Bi (whole l++Ba l)) (10 ^ (Ba l).length)):=J rfl;unfold D4 at hall;clear hg;have vU:∀W',(binOp .add 9 (str (whole l)) (str (Ba l))).run Tryz.prog W'= .ok (str (whole l++Ba l)) W':=Io _ _ (by omega);have hL:(whole l++Ba l).length<=800:=by rw[List.length_append];omega
  go_enter Tryz.func126,Tryz.ntmps126;go_wp2_with fail;refine(HD.o _).mono ?_
  rintro e w1 ⟨a,b,rfl,vW,am⟩;obtain⟨rfl,rfl⟩:=vW HG.o;rw[HG.o];generalize whole l=W at *;generalize Ba l=P at *;have ah:=J (((Ext.refl w).alloc (.cells #[.bool false,.slice none 0 0,.slice none 0 0] 26)).trans am);have aM:=J ((Blk.new w 26 #[.bool false,.slice none 0 0,.slice none 0 0]).ext am);obtain⟨cb,YV,og⟩:=DR w1 (W++P);have HBY:=J (fun j h=>Fq w1 (W++P) j h);have bS:=J (FX w1 (W++P));have aW:=J (OD w1 (W++P));clear am vW HD HG;generalize W++P=L at *;generalize B0 w1 L=wb at *;have fQ:=J hall;clear hall;go_wp2_with fail;clear YV vU;go_loopw [7,28] (fun s7 s28 wr=>∃(k m:Nat) (A:Option Addr) (c:Nat),k<=L.length/\s28= .int .i64 (k:Int)/\s7= .slice A m c/\Own (w.heap.size+1) wr s7 (Af (Bi (L.take k)))/\Ext wb wr) (fun _ s28 _=>L.length-(intOf s28).toNat)
  case atStart=>exact⟨0,0,none,0,Nat.zero_le _,rfl,rfl,Own.none_ _ _,Ext.refl _⟩
  case round=>
   obtain⟨k,m,A,c,hk,rfl,rfl,ho,hx⟩:=hrel;have HO:=J ho;have HX:=J hx;have cQ:w.heap.size+1<=wr.heap.size:=by
    have h1:=aM.o.lt;have h2:=aW.o;have h3:=hx.size;omega
   have fG:(Af (Bi (L.take k))).length<=800:=by
    refine Gc (JA _ ?_) (by rw[List.length_take];omega);rw[List.all_eq_true];intro x fo;exact List.all_eq_true.1 fQ.o x (List.mem_of_mem_take fo)
   by_cases hlt:k<L.length
   ·have fv:=(hx.cell aW.o).trans (HBY.o k hlt);have iq:=Bu L k hlt;have mT:Bq L[k]=true:=List.all_eq_true.1 fQ.o _ (List.getElem_mem hlt);have ie:=Jz L k hlt;rw[<-iq]at ie;unfold Bq at mT;rw[<-iq]at mT;simp only[Bool.and_eq_true,decide_eq_true_eq]at mT;obtain⟨d1,d2⟩:=mT;generalize Ac L k=b at *;have E1:=J (show ((b:Int)-48)=((b-48:Nat):Int) by omega);have HS:=J (Fe wr _ _ 10 (b-48) ho.arr (by omega) (by decide) (by omega));rw[Ah]at HS;have HN:=J (show Bi (L.take (k+1))=Bi (L.take k)*10+(b-48) by rw[ie];omega);clear ho hx iq ie fG og;go_wp2_with fail;rw[E1.o];refine HS.o.mono ?_
    rintro e w2 ⟨v2,rfl,bN,au⟩;rw[<-HN.o]at bN;have el:=J (bN.mono cQ);have aq:=J (HX.o.trans au);obtain⟨n2,A2,c2,rfl⟩:=bN.shape;clear bN au;go_wp2_with fail;go_roundw
    case rel=>exact⟨k+1,n2,A2,c2,by omega,by go_num,rfl,el.o,aq.o⟩
    case measure=>simp[intOf];omega
   ·obtain rfl:k=L.length:=by omega
    rw[List.take_of_length_le (Nat.le_refl _)]at HO ho fG;have fc:=J (Jl wr false _ _ ho.arr (by omega));rw[Ah]at fc;have hsg:sgn false (Bi L)=((Bi L:Nat):Int):=rfl;rw[hsg]at fc;have UP:=J (fun W'=>Q9 W' P.length (by omega));have hte:(Af (10 ^ P.length)).length<=801:=Gc (k:=P.length+1) (Nat.pow_lt_pow_right (by decide) (by omega)) (by omega);have ne:=J (fun W' a b h1 h2=>Rd W' a b ((Bi L:Nat):Int) ((10 ^ P.length:Nat):Int) h1 h2 (by rw[Int.natAbs_natCast];omega) (by rw[Int.natAbs_natCast];omega) (by
     have:0<10 ^ P.length:=Nat.pow_pos (by decide);omega))
    rw[(MI (Bi L) (10 ^ P.length)).1,(MI (Bi L) (10 ^ P.length)).2]at ne;have kC:=J ((ah.o.trans bS.o).trans hx);have ua:=J (((aM.o.ext bS.o)).ext hx);clear ho hx fG hte hsg og;go_wp2_with fail;refine fc.o.mono ?_
    rintro e w5 ⟨v5,rfl,nQ,hx5⟩;have xn:=J nQ;obtain⟨b5,n5,A5,c5,rfl⟩:=nQ.shape;have bg:=J (kC.o.trans hx5);have dP:=J (ua.o.ext hx5);clear nQ hx5;go_wp2_with fail;refine(UP.o _).mono ?_
    rintro e w6 ⟨v6,rfl,zC,be⟩;have xm:=J zC;obtain⟨b6,n6,A6,c6,rfl⟩:=zC.shape;have Vk:=J (xn.o.ext be);have aO:=J (bg.o.trans be);have bv:=J (dP.o.ext be);clear zC be;go_wp2_with fail;refine(ne.o _ _ _ Vk.o.arr xm.o.arr).mono ?_
    rintro e w8 ⟨v8,rfl,cK,bI⟩;obtain⟨b8,n8,A8,c8,qr,rf,qR,rfl⟩:=cK.shape;have iu:=J cK;have bV:=J (aO.o.trans bI);have hk:=bv.o.ext bI;have fP:=J hk;have oz:=J aO.o.size;have oI:=J bv.o.lt;clear cK bI;have k0:=hk.three;clear hk;go_wp2_with fail;obtain⟨e9,cI,hr2⟩:=Cb fP.o (.bool b8) (.slice A8 n8 c8) (.slice rf qr qR);refine bodyPost_ret (v:= .tuple #[.agg #[.bool b8,.slice A8 n8 c8,.slice rf qr qR],.int .i64 0]) (by simp[results,Tryz.results126,go_sem,e9,cI,hr2]) rfl ?_
    have fu:=iu.o.put (w:=w) oI.o oz.o;exact⟨_,by rw[HC.o];rfl,by rw[HC.o,if_pos rfl,if_pos rfl,mB.o,ql.o];exact fu,((bV.o.setCell (Nat.le_refl _) _).setCell (Nat.le_refl _) _).setCell (Nat.le_refl _) _⟩
theorem KD(w:World)(l:List UInt8)(hl:l.length<=1073741824):Calls Tryz.prog 99 #[str l] w fun e w'=>e= .returned (.bool (Cs l))/\Ext w w':=by
 have HW:=J (fun W=>PP W l hl);have HR:=J (fun W=>Kg W l);have h:Cs l=(CS l && !Bb l):=by rw[B3];rfl
 have H:=J h;clear h;cases hw:CS l
 ·rw[hw]at HW H;clear hw;go_enter Tryz.func99,Tryz.ntmps99;go_wp2_with fail;refine(HW.o _).mono ?_
  rintro e w1 ⟨rfl,rfl⟩;go_wp2_with fail;go_ret;exact⟨by rw[H.o];rfl,Ext.refl _⟩
 ·rw[hw]at HW H;clear hw;generalize Bb l=r at *;go_enter Tryz.func99,Tryz.ntmps99;go_wp2_with fail;refine(HW.o _).mono ?_
  rintro e w1 ⟨rfl,rfl⟩;go_wp2_with fail;refine(HR.o _).mono ?_
  rintro e w2 ⟨rfl,hx⟩;have HX:=J hx;clear hx;go_wp2_with fail;go_ret;exact⟨by rw[H.o];rfl,HX.o⟩
theorem IK(t:List UInt8):(⟨t.toArray⟩:ByteArray).toList.isEmpty=(t == []):=by
 rw[<-decide_eq_emptyBytes,Bool.eq_iff_iff];simp only[decide_eq_true_eq,beq_iff_eq];constructor
 ·intro h;have:=congrArg (fun b:ByteArray=>b.data.toList) h
  simpa using this
 ·intro h;subst h;rfl
def ndV(x:Nd):Value:= .agg #[.int .i64 x.kind,.int .i64 x.a,.int .i64 x.b,.int .i64 x.n,str x.text]
theorem KK(n:Int):decide (-64<=n/\n<=64)=(decide (-64<=n) && decide (n<=64)):=by simp
theorem KJ(w:World)(x:Nd)(hl:x.text.length<=1073741824):Calls Tryz.prog 173 #[ndV x] w fun e w'=>e= .returned (.bool (Ay x))/\Ext w w':=by
 obtain⟨k,a,b,n,t⟩:=x;simp only[ndV]at hl ⊢;have HP:=J (fun W=>Iq W t);have HN:=J (fun W=>KD W t hl);obtain⟨s,hs⟩:∃s:ByteArray,s=⟨t.toArray⟩:=⟨_,rfl⟩;have ai:str t= .string s:=by rw[hs];rfl
 have hne:s.toList.isEmpty=(t == []):=by rw[hs];exact IK t
 rw[ai]at HP HN ⊢;clear hs ai;have hb0:=Blk.new w 95 #[.int .i64 k,.int .i64 a,.int .i64 b,.int .i64 n,.string s];have ek:=J ((Ext.refl w).alloc (.cells #[.int .i64 k,.int .i64 a,.int .i64 b,.int .i64 n,.string s] 95));have fD:=J hb0;have q0:=hb0.five;clear hb0;have hM:∀h:Bool,(Ay ⟨k,a,b,n,t⟩=(Ch ⟨k,a,b,n,t⟩ && B4 ⟨k,a,b,n,t⟩)):=fun _=>rfl
 have key:(k=1)\/(k=2)\/(k≠1/\k≠2):=by omega
 rcases key with rfl|rfl|⟨fg,hk2⟩
 ·by_cases hc0:Bs t=0
  ·have H:Hid (Ay ⟨1,a,b,n,t⟩=(n == 0)):=J (by unfold Ay Ch B4;simp[hc0]);have HC:=J hc0;clear hc0 hM hne;generalize Ay ⟨1,a,b,n,t⟩=r at *;go_enter Tryz.func173,Tryz.ntmps173;go_wp2_with fail;refine(HP.o _).mono ?_
   rintro e w5 ⟨v5,rfl,cm,hx5⟩;obtain⟨b5,n5,A5,c5,n6,A6,c6,rfl⟩:=cm.shape;have be:=hx5.alloc (.cells #[.bool b5,.slice A5 n5 c5,.slice A6 n6 c6] 26);have aO:=J (ek.o.trans be);have q0:=(fD.o.ext be).five;clear cm hx5 be;rw[HC.o];go_wp2_with fail;go_ret;exact⟨by rw[H.o];rfl,aO.o⟩
  ·have H:Hid (Ay ⟨1,a,b,n,t⟩=false):=J (by unfold Ay Ch B4;simp[hc0]);have og:((Bs t:Int) != 0)=true:=by
    rw[bne_iff_ne];omega
   clear hc0 hM hne;generalize Ay ⟨1,a,b,n,t⟩=r at *;generalize hce:(Bs t:Int)=ce at *;clear q0;go_enter Tryz.func173,Tryz.ntmps173;have q0:=fD.o.five;go_wp2_with fail;refine(HP.o _).mono ?_
   rintro e w5 ⟨v5,rfl,cm,hx5⟩;obtain⟨b5,n5,A5,c5,n6,A6,c6,rfl⟩:=cm.shape;have be:=hx5.alloc (.cells #[.bool b5,.slice A5 n5 c5,.slice A6 n6 c6] 26);have aO:=J (ek.o.trans be);clear cm hx5 be;rw[hce];go_wp2_with fail;go_ret;exact⟨by rw[H.o];rfl,aO.o⟩
 ·have H:Hid (Ay ⟨2,a,b,n,t⟩=(Cs t && (n == 0))):=J (by unfold Ay Ch B4;simp);generalize Ay ⟨2,a,b,n,t⟩=r at *;clear hM hne;cases hnb:Cs t
  ·rw[hnb]at HN H;clear hnb;go_enter Tryz.func173,Tryz.ntmps173;go_wp2_with fail;refine(HN.o _).mono ?_
   rintro e w5 ⟨rfl,hx5⟩;have aO:=J (ek.o.trans hx5);clear hx5;go_wp2_with fail;go_ret;exact⟨by rw[H.o];rfl,aO.o⟩
  ·rw[hnb]at HN H;clear hnb;go_enter Tryz.func173,Tryz.ntmps173;go_wp2_with fail;refine(HN.o _).mono ?_
   rintro e w5 ⟨rfl,hx5⟩;have aO:=J (ek.o.trans hx5);have q0:=(fD.o.ext hx5).five;clear hx5;go_wp2_with fail;go_ret;exact⟨by rw[H.o];rfl,aO.o⟩
 ·have e1:(k == 1)=false:=by rw[beq_eq_false_iff_ne];omega
  have e2:(k == 2)=false:=by rw[beq_eq_false_iff_ne];omega
  have H1:Hid (Ay ⟨k,a,b,n,t⟩=(s.toList.isEmpty && B4 ⟨k,a,b,n,t⟩)):=J (by rw[hne];unfold Ay Ch;rw[if_neg fg,if_neg hk2]);have H2:Hid (B4 ⟨k,a,b,n,t⟩=if k=10 then decide (-64<=n/\n<=64) else n == 0):=J rfl;generalize Ay ⟨k,a,b,n,t⟩=r at *;generalize B4 ⟨k,a,b,n,t⟩=m at *;clear hM hne fg hk2 HP HN hl;cases hsb:s.toList.isEmpty
  ·rw[hsb]at H1;go_enter Tryz.func173,Tryz.ntmps173;go_wp2_with fail;go_ret;exact⟨by rw[H1.o];rfl,ek.o⟩
  ·rw[hsb]at H1;by_cases h10:k=10
   ·subst h10;have H3:Hid (m=(decide (-64<=n) && decide (n<=64))):=J (by rw[H2.o,if_pos rfl,KK]);by_cases hn: -64<=n
    ·have hd:decide (-64<=n)=true:=decide_eq_true hn;rw[hd]at H3;go_enter Tryz.func173,Tryz.ntmps173;go_wp2_with fail;go_ret;exact⟨by rw[H1.o,H3.o];rfl,ek.o⟩
    ·have hd:decide (-64<=n)=false:=decide_eq_false hn;rw[hd]at H3;go_enter Tryz.func173,Tryz.ntmps173;go_wp2_with fail;go_ret;exact⟨by rw[H1.o,H3.o];rfl,ek.o⟩
   ·have UA:(k == 10)=false:=by rw[beq_eq_false_iff_ne];exact h10
    have H3:Hid (m=(n == 0)):=J (by rw[H2.o,if_neg h10]);clear h10;go_enter Tryz.func173,Tryz.ntmps173;go_wp2_with fail;go_ret;exact⟨by rw[H1.o,H3.o];rfl,ek.o⟩
theorem G8:(Tryz.prog.info? 3).map (fun i=>(i.zero,i.size,i.bytes))=some (some (.int .i64 0),1,8):=by kernel_rfl
def din(n:Nat):Value:= .int .i64 (n:Int)
def IS(B:Nat)(w:World)(v:Value)(l:List Nat):Prop:=BJ 3 B w v (l.map din)
def Hp(w:World)(v:Value)(l:List Nat):Prop:=BS w v (l.map din)
section
variable {w w':World} {v:Value} {l:List Nat} {B B':Nat}
theorem IS.nil(B:Nat)(w:World):IS B w (.slice none 0 0) []:=BJ.none_ _ B w
theorem IS.ext(h:IS B w v l)(hb:Ext w w'):IS B w' v l:=BJ.ext h hb
theorem IS.arr(h:IS B w v l):Hp w v l:=BJ.arr h
theorem Hp.ext(h:Hp w v l)(hb:Ext w w'):Hp w' v l:=BS.ext h hb
theorem Iz{j:Nat}(hj:j<l.length):(l.map din)[j]? =some (din l[j]):=by
 rw[List.getElem?_map,List.getElem?_eq_getElem hj];rfl
theorem Hp.open(h:Hp w v l):∃A c,v= .slice A l.length c/\
  (0<l.length->∃b o,A=some ⟨b,o,none⟩/\b<w.heap.size/\∀j (_hj:j<l.length),w.cell? ⟨b,o+j,none⟩=some (.int .i64 ((l.getD j 0:Nat):Int))):=by
 obtain⟨A,c,rfl,h2,h3,h4⟩:=h;rw[List.length_map]at h2 h4;refine⟨A,c,by rw[List.length_map],fun hp=> ?_⟩;obtain⟨b,o,rfl,hlt,hc⟩:=h4 hp;exact⟨b,o,rfl,hlt,fun j hj=>by
  rw[hc j _ (Iz hj),List.getD_eq_getElem?_getD,List.getElem?_eq_getElem hj];rfl⟩
theorem Rt:∀u∈l.map din,u.oneCell'=true:=fun u hu=>by
 obtain⟨x,_,rfl⟩:=List.mem_map.1 hu;rfl
end
theorem Hp.fresh1(w:World)(n:Nat):Hp (w.alloc (.cells #[.int .i64 (n:Int)] 3)) (.slice (some ⟨w.heap.size,0,none⟩) 1 1) [n]:=BS.one (by simp[din])
theorem I4 {w:World} {v src:Value} {xs ys:List Nat} {B:Nat} {ops:Array Oper} {rest:List Oper} {o:Oper} {a:Act} {Q:Exit->Act->World->Prop} (eT:o.guard=none) (s x:Operand)
  (ho:o.op= .call { callee:= .builtin .append,args:= #[s,x],argTypes:= #[41,41] })
  (hs:a.eval s=v) (ag:IS B w v xs) (hx:a.eval x=src) (eo:Hp w src ys) (hn:xs.length+ys.length<=2147483648) (bj:B<=w.heap.size)
  (h:∀v' w',IS B w' v' (xs++ys)->w.grownBy w' (Ea v)->Below B w w'->wpList Tryz.prog ops Q rest (a.put o.dst v') w'):wpList Tryz.prog ops Q (o::rest) a w:=by
 obtain⟨i0,hi,aU,hz1,a9⟩:=info_parts G8;refine Do eT s x 41 ho 3 i0 _ 8 Tryz.underlying41 hi aU hz1 a9 rfl hs ag hx eo Rt (by simp only[List.length_map];unfold maxLen;omega) (by simp only[List.length_map];omega) bj (fun v' w' h1 h2 h3=>h v' w' ?_ h2 h3);unfold IS;rw[List.map_append];exact h1
def Bv(B:Nat)(w:World)(v:Value)(n:Nat)(S:List Nat):Prop:=w.ownsRow B 3 1 v n (S.map din)
def EM(v u:Value):Prop:=∀g,v.ownBlock=some g->u.ownBlock≠some g
theorem Bv.len{B n:Nat}{w:World}{v:Value}{S:List Nat}(h:Bv B w v n S):S.length=n:=by
 have:=h.1;rw[List.length_map,Nat.mul_one]at this;exact this
theorem Bv.get{B n g c:Nat}{w:World}{S:List Nat}(h:Bv B w (.slice (some ⟨g,0,none⟩) n c) n S)(j:Nat)(hj:j<n):w.cell? ⟨g,j,none⟩=some (.int .i64 ((S.getD j 0:Nat):Int)):=by
 have h1:=h.cellAt j (by omega);have h2:=h.len;rw[h1,List.getElem?_map,List.getD_eq_getElem?_getD,List.getElem?_eq_getElem (by omega)];rfl
theorem Bv.ext{B n:Nat}{w w':World}{v:Value}{S:List Nat}(h:Bv B w v n S)(hx:Ext w w'):Bv B w' v n S:=Ad h (fun _ _ hg=>Below.block hx _ hg)
theorem Bv.arr{B n:Nat}{w:World}{v:Value}{S:List Nat}(h:Bv B w v n S):Hp w v S:=by
 have hl:=h.len;rcases h.2 with ⟨rfl,h2⟩|⟨g,cap,cur,rfl,hb,hg,hc,hm,hs,ht⟩
 ·have:S=[]:=List.eq_nil_of_length_eq_zero (by omega);subst this;exact BS.none_ w
 ·refine⟨_,_,by rw[List.length_map,hl],by rw[List.length_map,hl];exact hc,hm,fun _=>⟨g,0,rfl,?_,fun j u hj=> ?_⟩⟩
  ·rcases Nat.lt_or_ge g w.heap.size with h|h
   ·exact h
   ·rw[Array.getElem?_eq_none h]at hg;cases hg
  ·have oZ:j<n:=by
    rcases Nat.lt_or_ge j n with h|h
    ·exact h
    ·rw[List.getElem?_eq_none (by rw[List.length_map];omega)]at hj;cases hj
   rw[Nat.zero_add,h.cellAt j (by omega),hj]
theorem Bv.blt{B n:Nat}{w:World}{v:Value}{S:List Nat}(h:Bv B w v n S)(g:Nat)(hg:v.ownBlock=some g):B<=g/\g<w.heap.size:=by
 rcases h.2 with ⟨rfl,h2⟩|⟨g',cap,cur,rfl,hb,hh,_⟩
 ·cases hg
 ·simp only[Value.ownBlock,Option.some.injEq]at hg;subst hg;refine⟨hb,?_⟩;rcases Nat.lt_or_ge g' w.heap.size with h|h
  ·exact h
  ·rw[Array.getElem?_eq_none h]at hh;cases hh
theorem ET {B n m:Nat} {W w':World} {v u:Value} {S D:List Nat} {o:Obj} {g H:Nat} {u':Value} (h4:Bv B W v n S) (h5:Bv B W u m D) (jv:EM v u) (hB:B<=W.heap.size)
  (al:(W.alloc o).grownBy w' v.ownBlock) (hat:v.ownBlock=some g\/g=H) (hH:(W.alloc o).heap.size=H) (hu:u'.ownBlock=some g):Bv B w' u m D/\EM u' u/\Below B W w':=by
 have hs:(W.alloc o).heap.size=W.heap.size+1:=by simp
 refine⟨?_,fun k hk he=> ?_,?_⟩
 ·refine(h5.kept (row:=none) (World.grownBy_alloc W o none) (by cases hv:u.ownBlock<;>simp)).kept al ?_
  cases hu5:u.ownBlock with
  |none=>exact .inl rfl
  |some k=>exact .inr (fun he=>jv k he.symm hu5)
 ·rw[hu]at hk;injection hk with hk
  subst hk;rcases hat with hat|hat
  ·exact jv g hat he
  ·have:=(h5.blt g he).2;omega
 ·exact Below.grown ((Below.refl B W).alloc hB o) al (by omega) (fun k hk=>(h4.blt k hk).1)
theorem EM.symm{v u:Value}(h:EM v u):EM u v:=fun g h1 h2=>h g h2 h1
def QR(l:List Nd)(w:World)(e:Ending)(w':World):Prop:=
 ∃v1 v2,e= .returned (.tuple #[v1,v2])/\Ext w w'/\((EG l=none/\v1= .slice none 0 0/\v2= .slice none 0 0)\/∃S D,EG l=some (S,D)/\S.length=l.length/\D.length=l.length/\Hp w' v1 S/\Hp w' v2 D)
structure J7 (l:List Nd) (w:World) (i:Nat) (S D:List Nat) (v u:Value) (wr:World):Prop where
 ok:OJ S D
 go:GC [] [] l=GC S D (l.drop i)
 r4:Bv w.heap.size wr v i S
 r5:Bv w.heap.size wr u i D
 apart:EM v u
 ext:Ext w wr
theorem Ei{l:List Nd}{i:Nat}{nd:Nd}(h:l[i]? =some nd):l.drop i=nd::l.drop (i+1):=by
 obtain⟨hi,he⟩:=List.getElem?_eq_some_iff.1 h;rw[List.drop_eq_getElem_cons hi,he]
theorem J7.bad{l:List Nd}{w wr:World}{i:Nat}{S D:List Nat}{v u:Value}{nd:Nd}(h:J7 l w i S D v u wr)(hn:l[i]? =some nd)(hs:AW S D nd=none):EG l=none:=by
 have h1:=h.go;rw[Ei hn,GC,hs]at h1;unfold EG;rw[h1]
theorem J7.next {l:List Nd} {w wr w':World} {i s d:Nat} {S D:List Nat} {v u v' u':Value} {nd:Nd} (h:J7 l w i S D v u wr) (hn:l[i]? =some nd) (hs:AW S D nd=some (s,d))
  (h4:Bv w.heap.size w' v' (i+1) (S++[s])) (h5:Bv w.heap.size w' u' (i+1) (D++[d])) (jv:EM v' u') (hx:Ext w w'):J7 l w (i+1) (S++[s]) (D++[d]) v' u' w':=by
 have h1:=h.go;rw[Ei hn,GC,hs]at h1;exact⟨(h.ok.step hs).2.2,h1,h4,h5,jv,hx⟩
section
variable {S D:List Nat} {k a b n:Int} {t:List UInt8}
theorem Nr(h:Ap k= -1):AW S D ⟨k,a,b,n,t⟩=none:=by
 unfold AW;rw[if_pos (.inl (by simp only[h];decide))]
theorem Fa(h:Ay ⟨k,a,b,n,t⟩=false):AW S D ⟨k,a,b,n,t⟩=none:=by
 unfold AW;rw[if_pos (.inr (.inl h))]
theorem Q1(h:Ap k=0)(h2:a≠0):AW S D ⟨k,a,b,n,t⟩=none:=by
 unfold AW;rw[if_pos (.inr (.inr (.inl ⟨by simp only[h];decide,h2⟩)))]
theorem L6(h:Ap k<2)(h2:b≠0):AW S D ⟨k,a,b,n,t⟩=none:=by
 unfold AW;rw[if_pos (.inr (.inr (.inr ⟨h,h2⟩)))]
theorem Q4(h:Ap k=0)(hp:Ay ⟨k,0,0,n,t⟩=true):AW S D ⟨k,0,0,n,t⟩=some (1,1):=by
 unfold AW;rw[hp];simp only[h];simp
theorem Q3(h:Ap k=1)(hp:Ay ⟨k,a,0,n,t⟩=true)(ha:a=(S.length:Int)-1)(h0:0<=a):AW S D ⟨k,a,0,n,t⟩=some (S.getD a.toNat 0+1,D.getD a.toNat 0+1):=by
 unfold AW;rw[hp];simp only[h];rw[if_neg (by simp),if_neg (by decide),if_pos trivial,if_neg (by omega),Nat.max_eq_right (by omega)]
theorem Im(h:Ap k=1)(ha:a≠(S.length:Int)-1\/a<0):AW S D ⟨k,a,b,n,t⟩=none:=by
 unfold AW;simp only[h];split
 ·rfl
 ·simp
theorem Il(h:Ap k=2)(ha:b≠(S.length:Int)-1\/b<0):AW S D ⟨k,a,b,n,t⟩=none:=by
 unfold AW;simp only[h];split
 ·rfl
 ·simp
theorem Lk(h:Ap k=2)(ha:a≠(S.length:Int)-((S.getD b.toNat 0+1:Nat):Int)\/a<0):AW S D ⟨k,a,b,n,t⟩=none:=by
 unfold AW;simp only[h];split
 ·rfl
 ·simp only[Int.reduceEq,if_false];split
  ·rfl
  ·first|rfl|simp[ha]
theorem Q2(h:Ap k=2)(hp:Ay ⟨k,a,b,n,t⟩=true)(hb:b=(S.length:Int)-1)(hb0:0<=b)(ha:a=(S.length:Int)-((S.getD b.toNat 0+1:Nat):Int))(h0:0<=a):
  AW S D ⟨k,a,b,n,t⟩=some (S.getD b.toNat 0+1+S.getD a.toNat 0,max (D.getD b.toNat 0+1) (D.getD a.toNat 0+1)):=by
 unfold AW;rw[hp];simp only[h];rw[if_neg (by simp),if_neg (by decide),if_neg (by decide),if_neg (by omega),if_neg (by omega),Nat.max_eq_right (a:=1) (by omega)]
end
theorem FO(k:Int):Ap k= -1\/Ap k=0\/Ap k=1\/Ap k=2:=by
 unfold Ap
 repeat' split
 all_goals simp
theorem Pu(w:World)(v:Value)(l:List Nd)(hr:RNd w v l)(hl:l.length<=1000000)(cd:∀x∈l,x.text.length<=1073741824):Calls Tryz.prog 131 #[v] w (QR l w):=by
 have HR:=J hr;have eD:=J cd;obtain⟨i0,hi,aU,hz1,a9⟩:=info_parts G8;obtain⟨A,c,rfl,_⟩:=hr;clear cd;have aF:Hid (J7 l w 0 [] [] (.slice none 0 0) (.slice none 0 0) w):=J ⟨OJ.nil,rfl,⟨rfl,.inl ⟨rfl,rfl⟩⟩,⟨rfl,.inl ⟨rfl,rfl⟩⟩,(fun g h=>by cases h),Ext.refl w⟩;obtain⟨n,hn⟩:∃n,n=l.length:=⟨_,rfl⟩;have HN:=J hn;rw[<-hn]at hl ⊢;clear hn;go_enter Tryz.func131,Tryz.ntmps131;go_wp2_with fail;go_loopw [4,5,14] (fun s4 s5 s14 wr=>∃(i:Nat) (S D:List Nat),i<=n/\s14= .int .i64 (i:Int)/\J7 l w i S D s4 s5 wr) (fun _ _ s14 _=>n-(intOf s14).toNat)
 case atStart=>exact⟨0,[],[],Nat.zero_le _,rfl,aF.o⟩
 case round=>
  obtain⟨i,S,D,hin,rfl,aJ⟩:=hrel;have HI:=J aJ;obtain⟨A4,c4,rfl⟩:=Am aJ.r4;obtain⟨A5,c5,rfl⟩:=Am aJ.r5;clear aF;by_cases hlt:i<n
  ·have hil:i<l.length:=by rw[<-HN.o];exact hlt
   have Xb:=J hil;obtain⟨A',c',he,hc⟩:=HR.o.ext aJ.ext;obtain⟨b,o,Uv,hb,hc⟩:=hc (by omega);obtain⟨nd,hnd,hat,gj⟩:∃nd,l[i]? =some nd/\OM wr b (o+i*5) nd/\nd.text.length<=1073741824:=⟨l[i],List.getElem?_eq_getElem hil,hc i hil,eD.o _ (List.getElem_mem hil)⟩
   injection he with he1 he2 he3
   subst he1;clear he2 he3;subst Uv;have ar:Hid (AW S D nd=none->EG l=none):=J (fun h=>aJ.bad hnd h);have aQ:=J hnd;clear hnd hc;have hw:wr.heap.size>=w.heap.size:=aJ.ext.size;have HX:=J aJ.ext;have oV:=aJ.r4.len;have pP:=aJ.r5.len;have oA:=J oV;have yj:=J pP;have yY:=aJ.ok.size;have zP:=aJ.ok.depth;rw[oV]at yY zP;have UT:=J yY;have q7:=J zP;have dA:=J aJ.r4;have bW:=J aJ.r5;clear aJ hil oV pP yY zP;obtain⟨kd,na,nb,nn,nt⟩:=nd;have bF:=J (fun W=>KJ W ⟨kd,na,nb,nn,nt⟩ gj);simp only[ndV]at bF;obtain⟨k0,k1,k2,k3,k4⟩:=hat;simp only at k0 k1 k2 k3 k4;obtain⟨s,hs⟩:∃s:ByteArray,s=⟨nt.toArray⟩:=⟨_,rfl⟩;have ai:str nt= .string s:=by rw[hs];rfl
   rw[ai]at bF k4;clear hs ai gj;have aK:=J (fun W=>Bx W kd);have key:=FO kd;have Yf:∃p,p=Ay ⟨kd,na,nb,nn,nt⟩:=⟨_,rfl⟩;obtain⟨p,hp⟩:=Yf;rw[<-hp]at bF;have hb0:=Blk.new wr 95 #[.int .i64 kd,.int .i64 na,.int .i64 nb,.int .i64 nn,.string s];have ax:=J ((Ext.refl wr).alloc (.cells #[.int .i64 kd,.int .i64 na,.int .i64 nb,.int .i64 nn,.string s] 95));have cG:=J hb0;have q0:=hb0.five;clear hb0;rcases key with aG|aG|aG|aG
   ·have aN:=J (ar.o (Nr aG));rw[aG]at aK;clear aG hp ar;go_wp2_with fail;refine(aK.o _).mono ?_
    rintro e w2 ⟨rfl,rfl⟩;go_wp2_with fail;go_ret2;exact⟨_,_,rfl,HX.o.trans ax.o,.inl ⟨aN.o,rfl,rfl⟩⟩
   ·cases hpb:p
    ·rw[hpb]at hp bF;clear hpb;have aN:=J (ar.o (Fa hp.symm));rw[aG]at aK;clear aG hp ar;go_wp2_with fail;refine(aK.o _).mono ?_
     rintro e w2 ⟨rfl,rfl⟩;go_wp2_with fail;refine(bF.o _).mono ?_
     rintro e w3 ⟨rfl,ae⟩;have bS:=J (HX.o.trans (ax.o.trans ae));have aD:=J (cG.o.ext ae);have q0:=aD.o.five;have cp:=J (dA.o.ext (ax.o.trans ae));have bP:=J (bW.o.ext (ax.o.trans ae));have dJ:w.heap.size<=w3.heap.size:=bS.o.size;clear ae;go_wp2_with fail;go_ret2;exact⟨_,_,rfl,bS.o,.inl ⟨aN.o,rfl,rfl⟩⟩
    ·rw[hpb]at hp bF;clear hpb;by_cases ha:na=0
     ·subst ha;by_cases hb:nb=0
      ·subst hb;have eG:Hid (AW S D ⟨kd,0,0,nn,nt⟩=some (1,1)):=J (Q4 aG hp.symm);rw[aG]at aK;clear aG hp;go_wp2_with fail;refine(aK.o _).mono ?_
       rintro e w2 ⟨rfl,rfl⟩;go_wp2_with fail;refine(bF.o _).mono ?_
       rintro e w3 ⟨rfl,ae⟩;have bS:=J (HX.o.trans (ax.o.trans ae));have aD:=J (cG.o.ext ae);have q0:=aD.o.five;have cp:=J (dA.o.ext (ax.o.trans ae));have bP:=J (bW.o.ext (ax.o.trans ae));have dJ:w.heap.size<=w3.heap.size:=bS.o.size;clear ae;have cB:=J (eG.o);have bu:Hid (i+1<=maxLen):=J (by unfold maxLen;omega);have br:Hid ((i+1)*8<=140737488355328):=J (by omega);have fi:Hid ((w3.alloc (.cells #[.int .i64 1] 3)).ownsRow w.heap.size 3 1 (.slice A4 i c4) i (S.map din)):=J (Ad cp.o (fun k _ hk=>Below.heap_alloc _ _ k hk));have bC:=J (Bw w3 3 [.int .i64 1]);have bA:Hid (w.heap.size<=(w3.alloc (.cells #[.int .i64 1] 3)).heap.size):=J (by simp;omega);clear ar;go_wp2_with (at_builtin;first|(refine wpList_append_lies _ rfl _ _ 41 rfl w.heap.size 3 i0 _ 1 8 Tryz.underlying41 hi aU hz1 a9 rfl (by decide) (.slice A4 i c4) i (S.map din) rfl fi.o ⟨w3.heap.size,0,none⟩ 1 1 [.int .i64 1] rfl rfl bC.o (by simp[Value.oneCell']) (by decide) bu.o br.o bA.o _ rfl ?_;intro g6 c6 w6 aT bM bR ey;have cJ:=J (ET (u':= .slice (some ⟨g6,0,none⟩) (i+1) c6) cp.o bP.o (HI.o.apart) dJ bM bR rfl rfl);have dj:Hid (Bv w.heap.size w6 (.slice (some ⟨g6,0,none⟩) (i+1) c6) (i+1) (S++[1])):=J (by unfold Bv;rw[List.map_append];exact aT);have iL:w.heap.size<=w6.heap.size:=Nat.le_trans dJ cJ.o.2.2.size;clear aT bM bR;have kZ:Hid ((w6.alloc (.cells #[.int .i64 1] 3)).ownsRow w.heap.size 3 1 (.slice A5 i c5) i (D.map din)):=J (Ad cJ.o.1 (fun k _ hk=>Below.heap_alloc _ _ k hk));have fM:=J (Bw w6 3 [.int .i64 1]);have oQ:Hid (w.heap.size<=(w6.alloc (.cells #[.int .i64 1] 3)).heap.size):=J (by simp;omega))|(refine wpList_append_lies _ rfl _ _ 41 rfl w.heap.size 3 i0 _ 1 8 Tryz.underlying41 hi aU hz1 a9 rfl (by decide) (.slice A5 i c5) i (D.map din) rfl kZ.o ⟨w6.heap.size,0,none⟩ 1 1 [.int .i64 1] rfl rfl fM.o (by simp[Value.oneCell']) (by decide) bu.o br.o oQ.o _ rfl ?_;intro g7 c7 w7 aI co dy mi;have dh:=J (ET (u':= .slice (some ⟨g7,0,none⟩) (i+1) c7) cJ.o.1 dj.o (cJ.o.2.1.symm) iL co dy rfl rfl);have eP:Hid (Bv w.heap.size w7 (.slice (some ⟨g7,0,none⟩) (i+1) c7) (i+1) (D++[1])):=J (by unfold Bv;rw[List.map_append];exact aI);clear aI co dy));go_wp2_with fail;go_roundw
       case rel=>exact⟨i+1,_,_,by omega,by go_num,HI.o.next aQ.o cB.o dh.o.1 eP.o dh.o.2.1.symm (bS.o.more (cJ.o.2.2.trans dh.o.2.2))⟩
       case measure=>simp[intOf];omega
      ·have fW:(nb != 0)=true:=by rw[bne_iff_ne];exact hb
       have aN:=J (ar.o (L6 (by omega) hb));rw[aG]at aK;clear aG hp ar hb;go_wp2_with fail;refine(aK.o _).mono ?_
       rintro e w2 ⟨rfl,rfl⟩;go_wp2_with fail;refine(bF.o _).mono ?_
       rintro e w3 ⟨rfl,ae⟩;have bS:=J (HX.o.trans (ax.o.trans ae));have aD:=J (cG.o.ext ae);have q0:=aD.o.five;have cp:=J (dA.o.ext (ax.o.trans ae));have bP:=J (bW.o.ext (ax.o.trans ae));have dJ:w.heap.size<=w3.heap.size:=bS.o.size;clear ae;go_wp2_with fail;go_ret2;exact⟨_,_,rfl,bS.o,.inl ⟨aN.o,rfl,rfl⟩⟩
     ·have vW:(na != 0)=true:=by rw[bne_iff_ne];exact ha
      have aN:=J (ar.o (Q1 aG ha));rw[aG]at aK;clear aG hp ar ha;go_wp2_with fail;refine(aK.o _).mono ?_
      rintro e w2 ⟨rfl,rfl⟩;go_wp2_with fail;refine(bF.o _).mono ?_
      rintro e w3 ⟨rfl,ae⟩;have bS:=J (HX.o.trans (ax.o.trans ae));have aD:=J (cG.o.ext ae);have q0:=aD.o.five;have cp:=J (dA.o.ext (ax.o.trans ae));have bP:=J (bW.o.ext (ax.o.trans ae));have dJ:w.heap.size<=w3.heap.size:=bS.o.size;clear ae;go_wp2_with fail;go_ret2;exact⟨_,_,rfl,bS.o,.inl ⟨aN.o,rfl,rfl⟩⟩
   ·cases hpb:p
    ·rw[hpb]at hp bF;clear hpb;have aN:=J (ar.o (Fa hp.symm));rw[aG]at aK;clear aG hp ar;go_wp2_with fail;refine(aK.o _).mono ?_
     rintro e w2 ⟨rfl,rfl⟩;go_wp2_with fail;refine(bF.o _).mono ?_
     rintro e w3 ⟨rfl,ae⟩;have bS:=J (HX.o.trans (ax.o.trans ae));have aD:=J (cG.o.ext ae);have q0:=aD.o.five;have cp:=J (dA.o.ext (ax.o.trans ae));have bP:=J (bW.o.ext (ax.o.trans ae));have dJ:w.heap.size<=w3.heap.size:=bS.o.size;clear ae;go_wp2_with fail;go_ret2;exact⟨_,_,rfl,bS.o,.inl ⟨aN.o,rfl,rfl⟩⟩
    ·rw[hpb]at hp bF;clear hpb;by_cases hb:nb=0
     ·subst hb;have lr:IntKind.i64.wrap ((i:Int)-1)=(i:Int)-1:=IntWalk.i64_in _ (by omega);by_cases hz:na=(i:Int)-1
      ·by_cases hz0':na<0
       ·have uh:(na != (i:Int)-1)=false:=by rw[hz];simp
        have ug:decide (na<0)=true:=decide_eq_true hz0';have aN:=J (ar.o (Im aG (.inr hz0')));rw[aG]at aK;clear aG hp ar hz;go_wp2_with fail;refine(aK.o _).mono ?_
        rintro e w2 ⟨rfl,rfl⟩;go_wp2_with fail;refine(bF.o _).mono ?_
        rintro e w3 ⟨rfl,ae⟩;have bS:=J (HX.o.trans (ax.o.trans ae));have aD:=J (cG.o.ext ae);have q0:=aD.o.five;have cp:=J (dA.o.ext (ax.o.trans ae));have bP:=J (bW.o.ext (ax.o.trans ae));have dJ:w.heap.size<=w3.heap.size:=bS.o.size;clear ae;go_wp2_with fail;go_ret2;exact⟨_,_,rfl,bS.o,.inl ⟨aN.o,rfl,rfl⟩⟩
       ·have gX:0<=na:=by omega
        have uh:(na != (i:Int)-1)=false:=by rw[hz];simp
        have ug:decide (na<0)=false:=decide_eq_false hz0';have jL:0<i:=by omega
        obtain⟨g4,d4,fU,Ud,zu⟩:=dA.o.form jL;injection fU with fU _ he5
        subst fU;subst he5;obtain⟨g5,d5,fU,so,rW⟩:=bW.o.form jL;injection fU with fU _ he5
        subst fU;subst he5;have nm:na.toNat<i:=by omega
        have iS:Hid (∀W,Bv w.heap.size W (.slice (some ⟨g4,0,none⟩) i c4) i S->W.cell? ⟨g4,na.toNat,none⟩=some (.int .i64 ((S.getD na.toNat 0:Nat):Int))):=J (fun W h=>h.get _ nm);have li:Hid (∀W,Bv w.heap.size W (.slice (some ⟨g5,0,none⟩) i c5) i D->W.cell? ⟨g5,na.toNat,none⟩=some (.int .i64 ((D.getD na.toNat 0:Nat):Int))):=J (fun W h=>h.get _ nm);have hsb:=UT.o na.toNat nm;have qJ:=q7.o na.toNat nm;have np:na<(i:Int):=by omega
        have eG:Hid (AW S D ⟨kd,na,0,nn,nt⟩=some (S.getD na.toNat 0+1,D.getD na.toNat 0+1)):=J (Q3 aG hp.symm (by rw[oA.o];exact hz) gX);generalize S.getD na.toNat 0=sv at *;generalize D.getD na.toNat 0=dv at *;have aL:IntKind.i64.wrap (1+(sv:Int))=((sv+1:Nat):Int):=by rw[IntWalk.i64_in _ (by omega)];omega
        have aY:IntKind.i64.wrap ((dv:Int)+1)=((dv+1:Nat):Int):=by rw[IntWalk.i64_in _ (by omega)];omega
        have gP:max (1:Int) ((dv+1:Nat):Int)=((dv+1:Nat):Int):=by omega
        obtain⟨s1,eF⟩:∃s1,s1=sv+1:=⟨_,rfl⟩;obtain⟨d1,cx⟩:∃d1,d1=dv+1:=⟨_,rfl⟩;rw[<-eF]at aL eG;rw[<-cx]at aY gP eG;have yZ:s1<=1000001:=by omega
        have zV:d1<=1000001:=by omega
        rw[aG]at aK;clear aG hp hz eF cx hsb qJ;go_wp2_with fail;refine(aK.o _).mono ?_
        rintro e w2 ⟨rfl,rfl⟩;go_wp2_with fail;refine(bF.o _).mono ?_
        rintro e w3 ⟨rfl,ae⟩;have bS:=J (HX.o.trans (ax.o.trans ae));have aD:=J (cG.o.ext ae);have q0:=aD.o.five;have cp:=J (dA.o.ext (ax.o.trans ae));have bP:=J (bW.o.ext (ax.o.trans ae));have dJ:w.heap.size<=w3.heap.size:=bS.o.size;clear ae;have dX:=iS.o w3 cp.o;have cm:=li.o w3 bP.o;go_upto_region 15 with fail;go_region
        all_goals
         obtain⟨w8,cN⟩:∃w8,w8=w3.drew:=⟨_,rfl⟩;rw[<-cN];have dO:Hid (Ext w3 w8):=J (by rw[cN];exact(Ext.refl w3).drew);have ir:=J (bS.o.trans dO.o);have kh:=J (aD.o.ext dO.o);have q0:=kh.o.five;have lj:=J (cp.o.ext dO.o);have mH:=J (bP.o.ext dO.o);have nS:w.heap.size<=w8.heap.size:=ir.o.size;clear cN;have cB:=J (eG.o);have bu:Hid (i+1<=maxLen):=J (by unfold maxLen;omega);have br:Hid ((i+1)*8<=140737488355328):=J (by omega);have fi:Hid ((w8.alloc (.cells #[.int .i64 ((s1:Nat):Int)] 3)).ownsRow w.heap.size 3 1 (.slice (some ⟨g4,0,none⟩) i c4) i (S.map din)):=J (Ad lj.o (fun k _ hk=>Below.heap_alloc _ _ k hk));have bC:=J (Bw w8 3 [.int .i64 ((s1:Nat):Int)]);have bA:Hid (w.heap.size<=(w8.alloc (.cells #[.int .i64 ((s1:Nat):Int)] 3)).heap.size):=J (by simp;omega);go_wp2_with (at_builtin;first|(refine wpList_append_lies _ rfl _ _ 41 rfl w.heap.size 3 i0 _ 1 8 Tryz.underlying41 hi aU hz1 a9 rfl (by decide) (.slice (some ⟨g4,0,none⟩) i c4) i (S.map din) rfl fi.o ⟨w8.heap.size,0,none⟩ 1 1 [.int .i64 ((s1:Nat):Int)] rfl rfl bC.o (by simp[Value.oneCell']) (by decide) bu.o br.o bA.o _ rfl ?_;intro g6 c6 w6 aT bM bR ey;have cJ:=J (ET (u':= .slice (some ⟨g6,0,none⟩) (i+1) c6) lj.o mH.o (HI.o.apart) nS bM bR rfl rfl);have dj:Hid (Bv w.heap.size w6 (.slice (some ⟨g6,0,none⟩) (i+1) c6) (i+1) (S++[s1])):=J (by unfold Bv;rw[List.map_append];exact aT);have iL:w.heap.size<=w6.heap.size:=Nat.le_trans nS cJ.o.2.2.size;clear aT bM bR;have kZ:Hid ((w6.alloc (.cells #[.int .i64 ((d1:Nat):Int)] 3)).ownsRow w.heap.size 3 1 (.slice (some ⟨g5,0,none⟩) i c5) i (D.map din)):=J (Ad cJ.o.1 (fun k _ hk=>Below.heap_alloc _ _ k hk));have fM:=J (Bw w6 3 [.int .i64 ((d1:Nat):Int)]);have oQ:Hid (w.heap.size<=(w6.alloc (.cells #[.int .i64 ((d1:Nat):Int)] 3)).heap.size):=J (by simp;omega))|(refine wpList_append_lies _ rfl _ _ 41 rfl w.heap.size 3 i0 _ 1 8 Tryz.underlying41 hi aU hz1 a9 rfl (by decide) (.slice (some ⟨g5,0,none⟩) i c5) i (D.map din) rfl kZ.o ⟨w6.heap.size,0,none⟩ 1 1 [.int .i64 ((d1:Nat):Int)] rfl rfl fM.o (by simp[Value.oneCell']) (by decide) bu.o br.o oQ.o _ rfl ?_;intro g7 c7 w7 aI co dy mi;have dh:=J (ET (u':= .slice (some ⟨g7,0,none⟩) (i+1) c7) cJ.o.1 dj.o (cJ.o.2.1.symm) iL co dy rfl rfl);have eP:Hid (Bv w.heap.size w7 (.slice (some ⟨g7,0,none⟩) (i+1) c7) (i+1) (D++[d1])):=J (by unfold Bv;rw[List.map_append];exact aI);clear aI co dy));go_wp2_with fail;go_roundw
         case rel=>exact⟨i+1,_,_,by omega,by go_num,HI.o.next aQ.o cB.o dh.o.1 eP.o dh.o.2.1.symm (ir.o.more (cJ.o.2.2.trans dh.o.2.2))⟩
         case measure=>simp[intOf];omega
      ·have uh:(na != (i:Int)-1)=true:=by rw[bne_iff_ne];exact hz
       have aN:=J (ar.o (Im aG (.inl (by rw[oA.o];exact hz))));rw[aG]at aK;clear aG hp ar hz;go_wp2_with fail;refine(aK.o _).mono ?_
       rintro e w2 ⟨rfl,rfl⟩;go_wp2_with fail;refine(bF.o _).mono ?_
       rintro e w3 ⟨rfl,ae⟩;have bS:=J (HX.o.trans (ax.o.trans ae));have aD:=J (cG.o.ext ae);have q0:=aD.o.five;have cp:=J (dA.o.ext (ax.o.trans ae));have bP:=J (bW.o.ext (ax.o.trans ae));have dJ:w.heap.size<=w3.heap.size:=bS.o.size;clear ae;go_wp2_with fail;go_ret2;exact⟨_,_,rfl,bS.o,.inl ⟨aN.o,rfl,rfl⟩⟩
     ·have fW:(nb != 0)=true:=by rw[bne_iff_ne];exact hb
      have aN:=J (ar.o (L6 (by omega) hb));rw[aG]at aK;clear aG hp ar hb;go_wp2_with fail;refine(aK.o _).mono ?_
      rintro e w2 ⟨rfl,rfl⟩;go_wp2_with fail;refine(bF.o _).mono ?_
      rintro e w3 ⟨rfl,ae⟩;have bS:=J (HX.o.trans (ax.o.trans ae));have aD:=J (cG.o.ext ae);have q0:=aD.o.five;have cp:=J (dA.o.ext (ax.o.trans ae));have bP:=J (bW.o.ext (ax.o.trans ae));have dJ:w.heap.size<=w3.heap.size:=bS.o.size;clear ae;go_wp2_with fail;go_ret2;exact⟨_,_,rfl,bS.o,.inl ⟨aN.o,rfl,rfl⟩⟩
   ·cases hpb:p
    ·rw[hpb]at hp bF;clear hpb;have aN:=J (ar.o (Fa hp.symm));rw[aG]at aK;clear aG hp ar;go_wp2_with fail;refine(aK.o _).mono ?_
     rintro e w2 ⟨rfl,rfl⟩;go_wp2_with fail;refine(bF.o _).mono ?_
     rintro e w3 ⟨rfl,ae⟩;have bS:=J (HX.o.trans (ax.o.trans ae));have aD:=J (cG.o.ext ae);have q0:=aD.o.five;have cp:=J (dA.o.ext (ax.o.trans ae));have bP:=J (bW.o.ext (ax.o.trans ae));have dJ:w.heap.size<=w3.heap.size:=bS.o.size;clear ae;go_wp2_with fail;go_ret2;exact⟨_,_,rfl,bS.o,.inl ⟨aN.o,rfl,rfl⟩⟩
    ·rw[hpb]at hp bF;clear hpb;have lr:IntKind.i64.wrap ((i:Int)-1)=(i:Int)-1:=IntWalk.i64_in _ (by omega);by_cases hz:nb=(i:Int)-1
     ·by_cases hz0':nb<0
      ·have uh:(nb != (i:Int)-1)=false:=by rw[hz];simp
       have ug:decide (nb<0)=true:=decide_eq_true hz0';have aN:=J (ar.o (Il aG (.inr hz0')));rw[aG]at aK;clear aG hp ar hz;go_wp2_with fail;refine(aK.o _).mono ?_
       rintro e w2 ⟨rfl,rfl⟩;go_wp2_with fail;refine(bF.o _).mono ?_
       rintro e w3 ⟨rfl,ae⟩;have bS:=J (HX.o.trans (ax.o.trans ae));have aD:=J (cG.o.ext ae);have q0:=aD.o.five;have cp:=J (dA.o.ext (ax.o.trans ae));have bP:=J (bW.o.ext (ax.o.trans ae));have dJ:w.heap.size<=w3.heap.size:=bS.o.size;clear ae;go_wp2_with fail;go_ret2;exact⟨_,_,rfl,bS.o,.inl ⟨aN.o,rfl,rfl⟩⟩
      ·have gX:0<=nb:=by omega
       have uh:(nb != (i:Int)-1)=false:=by rw[hz];simp
       have ug:decide (nb<0)=false:=decide_eq_false hz0';have jL:0<i:=by omega
       obtain⟨g4,d4,fU,Ud,zu⟩:=dA.o.form jL;injection fU with fU _ he5
       subst fU;subst he5;obtain⟨g5,d5,fU,so,rW⟩:=bW.o.form jL;injection fU with fU _ he5
       subst fU;subst he5;have nm:nb.toNat<i:=by omega
       have iS:Hid (∀W,Bv w.heap.size W (.slice (some ⟨g4,0,none⟩) i c4) i S->W.cell? ⟨g4,nb.toNat,none⟩=some (.int .i64 ((S.getD nb.toNat 0:Nat):Int))):=J (fun W h=>h.get _ nm);have li:Hid (∀W,Bv w.heap.size W (.slice (some ⟨g5,0,none⟩) i c5) i D->W.cell? ⟨g5,nb.toNat,none⟩=some (.int .i64 ((D.getD nb.toNat 0:Nat):Int))):=J (fun W h=>h.get _ nm);have hsb:=UT.o nb.toNat nm;have qJ:=q7.o nb.toNat nm;have np:nb<(i:Int):=by omega
       have eG:Hid (∀q:na=(i:Int)-((S.getD nb.toNat 0+1:Nat):Int),0<=na->AW S D ⟨kd,na,nb,nn,nt⟩=some (S.getD nb.toNat 0+1+S.getD na.toNat 0,max (D.getD nb.toNat 0+1) (D.getD na.toNat 0+1))):=J (fun q h=>Q2 aG hp.symm (by rw[oA.o];exact hz) gX (by rw[oA.o];exact q) h);have bD:Hid (na≠(i:Int)-((S.getD nb.toNat 0+1:Nat):Int)\/na<0->EG l=none):=J (fun h=>ar.o (Lk aG (by rw[oA.o];exact h)));have ly:∀q:na=(i:Int)-((S.getD nb.toNat 0+1:Nat):Int),0<=na->na.toNat<i:=fun q h=>by omega
       generalize S.getD nb.toNat 0=sv at *;generalize D.getD nb.toNat 0=dv at *;have aL:IntKind.i64.wrap (1+(sv:Int))=((sv+1:Nat):Int):=by rw[IntWalk.i64_in _ (by omega)];omega
       have aY:IntKind.i64.wrap ((dv:Int)+1)=((dv+1:Nat):Int):=by rw[IntWalk.i64_in _ (by omega)];omega
       have gP:max (1:Int) ((dv+1:Nat):Int)=((dv+1:Nat):Int):=by omega
       obtain⟨s1,eF⟩:∃s1,s1=sv+1:=⟨_,rfl⟩;obtain⟨d1,cx⟩:∃d1,d1=dv+1:=⟨_,rfl⟩;rw[<-eF]at aL eG bD ly;rw[<-cx]at aY gP eG;have yZ:s1<=1000001:=by omega
       have zV:d1<=1000001:=by omega
       have bf:IntKind.i64.wrap ((i:Int)-(s1:Int))=(i:Int)-(s1:Int):=IntWalk.i64_in _ (by omega);rw[aG]at aK;clear aG hp hz eF cx hsb qJ ar;by_cases hy:na=(i:Int)-(s1:Int)
       ·by_cases hy0:na<0
        ·have VI:(na != (i:Int)-(s1:Int))=false:=by rw[hy];simp
         have XI:decide (na<0)=true:=decide_eq_true hy0;have aN:=J (bD.o (.inr hy0));clear ly hy bD eG;go_wp2_with fail;refine(aK.o _).mono ?_
         rintro e w2 ⟨rfl,rfl⟩;go_wp2_with fail;refine(bF.o _).mono ?_
         rintro e w3 ⟨rfl,ae⟩;have bS:=J (HX.o.trans (ax.o.trans ae));have aD:=J (cG.o.ext ae);have q0:=aD.o.five;have cp:=J (dA.o.ext (ax.o.trans ae));have bP:=J (bW.o.ext (ax.o.trans ae));have dJ:w.heap.size<=w3.heap.size:=bS.o.size;clear ae;have dX:=iS.o w3 cp.o;have cm:=li.o w3 bP.o;go_upto_region 15 with fail;go_region
         all_goals
          obtain⟨w8,cN⟩:∃w8,w8=w3.drew:=⟨_,rfl⟩;rw[<-cN];have dO:Hid (Ext w3 w8):=J (by rw[cN];exact(Ext.refl w3).drew);have ir:=J (bS.o.trans dO.o);have kh:=J (aD.o.ext dO.o);have q0:=kh.o.five;have lj:=J (cp.o.ext dO.o);have mH:=J (bP.o.ext dO.o);have nS:w.heap.size<=w8.heap.size:=ir.o.size;clear cN;go_wp2_with fail;go_ret2;exact⟨_,_,rfl,ir.o,.inl ⟨aN.o,rfl,rfl⟩⟩
        ·have qt:0<=na:=by omega
         have VI:(na != (i:Int)-(s1:Int))=false:=by rw[hy];simp
         have XI:decide (na<0)=false:=decide_eq_false hy0;have gg:=ly hy qt;have lL:=J (eG.o hy qt);have HH4:Hid (∀W,Bv w.heap.size W (.slice (some ⟨g4,0,none⟩) i c4) i S->W.cell? ⟨g4,na.toNat,none⟩=some (.int .i64 ((S.getD na.toNat 0:Nat):Int))):=J (fun W h=>h.get _ gg);have HH5:Hid (∀W,Bv w.heap.size W (.slice (some ⟨g5,0,none⟩) i c5) i D->W.cell? ⟨g5,na.toNat,none⟩=some (.int .i64 ((D.getD na.toNat 0:Nat):Int))):=J (fun W h=>h.get _ gg);have hsb:=UT.o na.toNat gg;have qJ:=q7.o na.toNat gg;have hy2:na<(i:Int):=by omega
         generalize S.getD na.toNat 0=sa at *;generalize D.getD na.toNat 0=da at *;have hw4:IntKind.i64.wrap ((s1:Int)+(sa:Int))=((s1+sa:Nat):Int):=by rw[IntWalk.i64_in _ (by omega)];omega
         have dQ:IntKind.i64.wrap ((da:Int)+1)=((da+1:Nat):Int):=by rw[IntWalk.i64_in _ (by omega)];omega
         have Wf:max (d1:Int) ((da+1:Nat):Int)=((max d1 (da+1):Nat):Int):=by omega
         obtain⟨s2,gk⟩:∃s2,s2=s1+sa:=⟨_,rfl⟩;obtain⟨d2,ba⟩:∃d2,d2=da+1:=⟨_,rfl⟩;rw[<-gk]at hw4 lL;rw[<-ba]at dQ Wf lL;obtain⟨d3,kT⟩:∃d3,d3=max d1 d2:=⟨_,rfl⟩;rw[<-kT]at Wf lL;clear ly hy bD eG gg gk ba kT hsb qJ;go_wp2_with fail;refine(aK.o _).mono ?_
         rintro e w2 ⟨rfl,rfl⟩;go_wp2_with fail;refine(bF.o _).mono ?_
         rintro e w3 ⟨rfl,ae⟩;have bS:=J (HX.o.trans (ax.o.trans ae));have aD:=J (cG.o.ext ae);have q0:=aD.o.five;have cp:=J (dA.o.ext (ax.o.trans ae));have bP:=J (bW.o.ext (ax.o.trans ae));have dJ:w.heap.size<=w3.heap.size:=bS.o.size;clear ae;have dX:=iS.o w3 cp.o;have cm:=li.o w3 bP.o;go_upto_region 15 with fail;go_region
         all_goals
          obtain⟨w8,cN⟩:∃w8,w8=w3.drew:=⟨_,rfl⟩;rw[<-cN];have dO:Hid (Ext w3 w8):=J (by rw[cN];exact(Ext.refl w3).drew);have ir:=J (bS.o.trans dO.o);have kh:=J (aD.o.ext dO.o);have q0:=kh.o.five;have lj:=J (cp.o.ext dO.o);have mH:=J (bP.o.ext dO.o);have nS:w.heap.size<=w8.heap.size:=ir.o.size;clear cN;have gl:=HH4.o w8 lj.o;have py:=HH5.o w8 mH.o;go_upto_region 19 with fail;go_region
          all_goals
           obtain⟨w9,yT⟩:∃w9,w9=w8.drew:=⟨_,rfl⟩;rw[<-yT];have qk:Hid (Ext w8 w9):=J (by rw[yT];exact(Ext.refl w8).drew);have wD:=J (ir.o.trans qk.o);have Vt:=J (kh.o.ext qk.o);have q0:=Vt.o.five;have xt:=J (lj.o.ext qk.o);have Vl:=J (mH.o.ext qk.o);have vt:w.heap.size<=w9.heap.size:=wD.o.size;clear yT;have cB:=J (lL.o);have bu:Hid (i+1<=maxLen):=J (by unfold maxLen;omega);have br:Hid ((i+1)*8<=140737488355328):=J (by omega);have fi:Hid ((w9.alloc (.cells #[.int .i64 ((s2:Nat):Int)] 3)).ownsRow w.heap.size 3 1 (.slice (some ⟨g4,0,none⟩) i c4) i (S.map din)):=J (Ad xt.o (fun k _ hk=>Below.heap_alloc _ _ k hk));have bC:=J (Bw w9 3 [.int .i64 ((s2:Nat):Int)]);have bA:Hid (w.heap.size<=(w9.alloc (.cells #[.int .i64 ((s2:Nat):Int)] 3)).heap.size):=J (by simp;omega);go_wp2_with (at_builtin;first|(refine wpList_append_lies _ rfl _ _ 41 rfl w.heap.size 3 i0 _ 1 8 Tryz.underlying41 hi aU hz1 a9 rfl (by decide) (.slice (some ⟨g4,0,none⟩) i c4) i (S.map din) rfl fi.o ⟨w9.heap.size,0,none⟩ 1 1 [.int .i64 ((s2:Nat):Int)] rfl rfl bC.o (by simp[Value.oneCell']) (by decide) bu.o br.o bA.o _ rfl ?_;intro g6 c6 w6 aT bM bR ey;have cJ:=J (ET (u':= .slice (some ⟨g6,0,none⟩) (i+1) c6) xt.o Vl.o (HI.o.apart) vt bM bR rfl rfl);have dj:Hid (Bv w.heap.size w6 (.slice (some ⟨g6,0,none⟩) (i+1) c6) (i+1) (S++[s2])):=J (by unfold Bv;rw[List.map_append];exact aT);have iL:w.heap.size<=w6.heap.size:=Nat.le_trans vt cJ.o.2.2.size;clear aT bM bR;have kZ:Hid ((w6.alloc (.cells #[.int .i64 ((d3:Nat):Int)] 3)).ownsRow w.heap.size 3 1 (.slice (some ⟨g5,0,none⟩) i c5) i (D.map din)):=J (Ad cJ.o.1 (fun k _ hk=>Below.heap_alloc _ _ k hk));have fM:=J (Bw w6 3 [.int .i64 ((d3:Nat):Int)]);have oQ:Hid (w.heap.size<=(w6.alloc (.cells #[.int .i64 ((d3:Nat):Int)] 3)).heap.size):=J (by simp;omega))|(refine wpList_append_lies _ rfl _ _ 41 rfl w.heap.size 3 i0 _ 1 8 Tryz.underlying41 hi aU hz1 a9 rfl (by decide) (.slice (some ⟨g5,0,none⟩) i c5) i (D.map din) rfl kZ.o ⟨w6.heap.size,0,none⟩ 1 1 [.int .i64 ((d3:Nat):Int)] rfl rfl fM.o (by simp[Value.oneCell']) (by decide) bu.o br.o oQ.o _ rfl ?_;intro g7 c7 w7 aI co dy mi;have dh:=J (ET (u':= .slice (some ⟨g7,0,none⟩) (i+1) c7) cJ.o.1 dj.o (cJ.o.2.1.symm) iL co dy rfl rfl);have eP:Hid (Bv w.heap.size w7 (.slice (some ⟨g7,0,none⟩) (i+1) c7) (i+1) (D++[d3])):=J (by unfold Bv;rw[List.map_append];exact aI);clear aI co dy));go_wp2_with fail;go_roundw
           case rel=>exact⟨i+1,_,_,by omega,by go_num,HI.o.next aQ.o cB.o dh.o.1 eP.o dh.o.2.1.symm (wD.o.more (cJ.o.2.2.trans dh.o.2.2))⟩
           case measure=>simp[intOf];omega
       ·have VI:(na != (i:Int)-(s1:Int))=true:=by rw[bne_iff_ne];exact hy
        have aN:=J (bD.o (.inl hy));clear ly hy bD eG;go_wp2_with fail;refine(aK.o _).mono ?_
        rintro e w2 ⟨rfl,rfl⟩;go_wp2_with fail;refine(bF.o _).mono ?_
        rintro e w3 ⟨rfl,ae⟩;have bS:=J (HX.o.trans (ax.o.trans ae));have aD:=J (cG.o.ext ae);have q0:=aD.o.five;have cp:=J (dA.o.ext (ax.o.trans ae));have bP:=J (bW.o.ext (ax.o.trans ae));have dJ:w.heap.size<=w3.heap.size:=bS.o.size;clear ae;have dX:=iS.o w3 cp.o;have cm:=li.o w3 bP.o;go_upto_region 15 with fail;go_region
        all_goals
         obtain⟨w8,cN⟩:∃w8,w8=w3.drew:=⟨_,rfl⟩;rw[<-cN];have dO:Hid (Ext w3 w8):=J (by rw[cN];exact(Ext.refl w3).drew);have ir:=J (bS.o.trans dO.o);have kh:=J (aD.o.ext dO.o);have q0:=kh.o.five;have lj:=J (cp.o.ext dO.o);have mH:=J (bP.o.ext dO.o);have nS:w.heap.size<=w8.heap.size:=ir.o.size;clear cN;go_wp2_with fail;go_ret2;exact⟨_,_,rfl,ir.o,.inl ⟨aN.o,rfl,rfl⟩⟩
     ·have uh:(nb != (i:Int)-1)=true:=by rw[bne_iff_ne];exact hz
      have aN:=J (ar.o (Il aG (.inl (by rw[oA.o];exact hz))));rw[aG]at aK;clear aG hp ar hz;go_wp2_with fail;refine(aK.o _).mono ?_
      rintro e w2 ⟨rfl,rfl⟩;go_wp2_with fail;refine(bF.o _).mono ?_
      rintro e w3 ⟨rfl,ae⟩;have bS:=J (HX.o.trans (ax.o.trans ae));have aD:=J (cG.o.ext ae);have q0:=aD.o.five;have cp:=J (dA.o.ext (ax.o.trans ae));have bP:=J (bW.o.ext (ax.o.trans ae));have dJ:w.heap.size<=w3.heap.size:=bS.o.size;clear ae;go_wp2_with fail;go_ret2;exact⟨_,_,rfl,bS.o,.inl ⟨aN.o,rfl,rfl⟩⟩
  ·obtain rfl:i=n:=by omega
   have lE:=HI.o.go;rw[List.drop_eq_nil_of_le (by rw[<-HN.o];exact Nat.le_refl _)]at lE;have dD:Hid (EG l=if l.length=0\/S.getD (l.length-1) 0≠l.length then none else some (S,D)):=J (by unfold EG;rw[lE];rfl);rw[<-HN.o]at dD;have HX:=J aJ.ext;have dA:=J aJ.r4;have bW:=J aJ.r5;have fK:=J aJ.ok.size;clear aJ lE;by_cases hz:i=0
   ·subst hz;have aN:Hid (EG l=none):=J (by rw[dD.o,if_pos (.inl rfl)]);go_wp2_with fail;go_ret2;exact⟨_,_,rfl,HX.o,.inl ⟨aN.o,rfl,rfl⟩⟩
   ·obtain⟨g4,d4,fU,_,_⟩:=dA.o.form (by omega);injection fU with fU _ he5
    subst fU;clear he5;obtain⟨y,hy⟩:∃y:Int,y=(i:Int)-1:=⟨_,rfl⟩;have ac:=dA.o.get (i-1) (by omega);have hj:y.toNat=i-1:=by omega
    have oS:((i:Int) == 0)=false:=by rw[beq_eq_false_iff_ne];omega
    have lr:IntKind.i64.wrap ((i:Int)-1)=y:=by rw[IntWalk.i64_in _ (by omega),hy]
    have rI:(0:Int)<=y:=by omega
    have jb:y<(i:Int):=by omega
    rw[<-hj]at ac dD;have eW:=J (And.intro dA.o.len bW.o.len);have VQ:=fK.o (i-1) (by have:=dA.o.len;omega);rw[<-hj]at VQ;generalize S.getD y.toNat 0=sv at *;clear hj fK hy VQ;by_cases he:sv=i
    ·have cD:Hid (EG l=some (S,D)):=J (by rw[dD.o,if_neg (by omega)]);subst he;have hne:((sv:Int) != (sv:Int))=false:=by simp
     clear dD hz;go_wp2_with fail;go_ret2;exact⟨_,_,rfl,HX.o,.inr ⟨S,D,cD.o,by rw[<-HN.o];exact eW.o.1,by rw[<-HN.o];exact eW.o.2,dA.o.arr,bW.o.arr⟩⟩
    ·have aN:Hid (EG l=none):=J (by rw[dD.o,if_pos (.inr he)]);have hne:((sv:Int) != (i:Int))=true:=by rw[bne_iff_ne];omega
     clear dD hz he;go_wp2_with fail;go_ret2;exact⟨_,_,rfl,HX.o,.inl ⟨aN.o,rfl,rfl⟩⟩
theorem Kt(w:World)(v:Value)(l:List Nd)(hr:RNd w v l)(hl:l.length<=1000000)(cd:∀x∈l,x.text.length<=1073741824):Calls Tryz.prog 67 #[v] w fun e w'=>e= .returned (.bool (Gy l))/\Ext w w':=by
 have HS:=J (Pu w v l hr hl cd);have HV:Hid (Gy l=(decide (1<=l.length/\l.length<=200) && match EG l with|none=>false|some (_,D)=>decide (D.getD (l.length-1) 0<=40))):=J rfl;obtain⟨A,c,rfl,_⟩:=hr;generalize Gy l=r at *;clear cd;obtain⟨n,hn⟩:∃n,n=l.length:=⟨_,rfl⟩;have HN:=J hn;rw[<-hn]at hl HV HS ⊢;clear hn;by_cases h1:n<1
 ·obtain rfl:n=0:=by omega
  clear HS h1;go_enter Tryz.func67,Tryz.ntmps67;go_wp2_with fail;go_ret;exact⟨by rw[HV.o];rfl,Ext.refl w⟩
 ·have WJ:decide ((n:Int)<1)=false:=decide_eq_false (by omega);have Zs:¬((n:Int)<1):=by omega
  by_cases h2:200<n
  ·have Zq:decide ((n:Int)>200)=true:=decide_eq_true (by omega);have Ux:(200:Int)<(n:Int):=by omega
   have hd:decide (1<=n/\n<=200)=false:=decide_eq_false (by omega);rw[hd]at HV;clear HS h1 h2 hd;go_enter Tryz.func67,Tryz.ntmps67;go_wp2_with fail;go_ret;exact⟨by rw[HV.o];rfl,Ext.refl w⟩
  ·have Zq:decide ((n:Int)>200)=false:=decide_eq_false (by omega);have Ux:¬(200:Int)<(n:Int):=by omega
   have hd:decide (1<=n/\n<=200)=true:=decide_eq_true (by omega);rw[hd,Bool.true_and]at HV;have Zr:1<=n:=by omega
   clear h1 h2 hd;go_enter Tryz.func67,Tryz.ntmps67;go_wp2_with fail;refine HS.o.mono ?_
   rintro e w1 ⟨v1,v2,rfl,hx,hp⟩;have HX:=J hx;clear hx;rcases hp with ⟨hs,rfl,rfl⟩|⟨S,D,hs,oV,pP,h4,h5⟩
   ·rw[hs]at HV;clear hs;go_wp2_with fail;go_ret;exact⟨by rw[HV.o];rfl,HX.o⟩
   ·rw[hs]at HV;have iE:Hid (r=decide (D.getD (n-1) 0<=40)):=J HV.o;clear HV;obtain⟨A4,c4,rfl,_⟩:=h4.open;obtain⟨A5,c5,rfl,h6⟩:=h5.open;rw[<-HN.o]at oV pP;rw[pP]at h6;obtain⟨g5,o5,rfl,_,h7⟩:=h6 (by omega);have h8:=h7 (n-1) (by omega);obtain⟨y,hy⟩:∃y:Int,y=(n:Int)-1:=⟨_,rfl⟩;have hj:y.toNat=n-1:=by omega
    rw[<-hj]at h8 iE;have hw:IntKind.i64.wrap ((n:Int)-1)=y:=by rw[IntWalk.i64_in _ (by omega),hy]
    have rI:(0:Int)<=y:=by omega
    have jb:y<(n:Int):=by omega
    generalize D.getD y.toNat 0=dv at *;have VU:(0:Int)<(n:Int):=by omega
    have hdv:decide (dv<=40)=decide ((dv:Int)<=40):=by rw[decide_eq_decide];omega
    have xw:=J hdv;rw[oV,pP];clear hs h4 h5 h6 h7 hj hy hdv oV pP;go_wp2_with fail;go_ret;exact⟨by rw[iE.o,xw.o];rfl,HX.o⟩
theorem K5(e:Ex)(hg:e.Good):∀off,∀x∈Ag off e,x.text.length<=1073741824:=by
 induction e with
 |leaf k t=>
  intro off x hx;rw[Ag,List.mem_singleton]at hx;subst hx;rcases hg with ⟨_,_,h⟩|⟨_,h⟩|⟨_,rfl⟩
  ·simp only;omega
  ·have:=FC (Bool.and_eq_true_iff.1 h).1;simp only;omega
  ·simp
 |un k n x ih=>
  intro off y hy;rw[Ag,List.mem_append,List.mem_singleton]at hy;rcases hy with hy|rfl
  ·exact ih hg.2.2.2.2 off y hy
  ·simp
 |bin k x z ihx ihy=>
  intro off y hy;rw[Ag,List.mem_append,List.mem_append,List.mem_singleton]at hy;rcases hy with hy|hy|rfl
  ·exact ihx hg.2.1 _ y hy
  ·exact ihy hg.2.2 _ y hy
  ·simp
theorem Gn.whole(e:Ex):Gn (Ag 0 e) (e.size-1) e:=⟨[],[],by simp,by have:=e.size_pos;simp;omega⟩
def T6(m:Int)(s:List UInt8):List UInt8:=if m=0 then 40::(s++[41]) else if m=1 then 32::(s++[32,32]) else s
end Big
end Go.Proofs.YtkoaogkknnelaaaGreatDoor
