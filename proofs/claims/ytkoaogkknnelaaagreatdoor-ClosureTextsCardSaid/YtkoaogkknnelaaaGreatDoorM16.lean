import Derived.Test.YtkoaogkknnelaaaGreatDoorM15
import Derived.Laws.Closers25
import Derived.Deep.AppendLies
import Derived.Lib.MinMax
set_option linter.unusedVariables false
set_option linter.unusedSimpArgs false
set_option maxHeartbeats 4000000
set_option maxRecDepth 100000
namespace Go.Proofs.YtkoaogkknnelaaaGreatDoor
namespace Big
open Lib renaming hid → J
open Go.RowKit
theorem MO(n:Nat)(d:Nat):MP (n:Int) ((d:Nat):Int)=MS (n:Int) d/\MQ (n:Int) ((d:Nat):Int)=MV (n:Int) d:=by
 unfold MP MS MQ MV;have h1:decide ((n:Int)<0)=false:=by simp
 have h2:decide ((d:Int)<0)=false:=by simp
 rw[h1,h2,qcp,qcp];exact⟨rfl,rfl⟩
theorem Lp(w:World)(l:List UInt8)(h:400<l.length):Calls Tryz.prog 126 #[str l] w (Gj w l):=by
 have hc:Bz l=7:=if_pos h;have h':(400:Int)<(l.length:Int):=by omega
 have HC:=J hc;clear h hc;go_enter Tryz.func126,Tryz.ntmps126;go_wp2_with fail;refine bodyPost_ret (v:= .tuple #[.agg #[.bool false,.slice none 0 0,.slice none 0 0],.int .i64 7]) (by simp[results,Tryz.results126,go_sem]) rfl ?_
 exact⟨_,by rw[HC.o];rfl,by rw[HC.o];exact BH.zero _ _,(Ext.refl w).alloc _⟩
theorem Il(w:World)(l:List UInt8):Calls Tryz.prog 126 #[str l] w (Gj w l):=by
 rcases qam 400 l.length with hl|hl
 ·exact Lp w l hl
 have HD:=J (fun W=>Lr W l (by omega));have xI:¬(400:Int)<(l.length:Int):=by omega
 cases hg:CR l
 ·have HC:Hid (Bz l=6):=J (by unfold Bz;rw[if_neg (by omega),hg];rfl);have HG:=J hg;clear hg;go_enter Tryz.func126,Tryz.ntmps126;go_wp2_with fail;refine(HD.o _).mono ?_
  rintro e w1 ⟨a,b,rfl,_,ar⟩;rw[HG.o];have ah:=J (((Ext.refl w).alloc (.cells #[.bool false,.slice none 0 0,.slice none 0 0] 26)).trans ar);have hk:=(Blk.new w 26 #[.bool false,.slice none 0 0,.slice none 0 0]).ext ar;have aA:=J hk;have k0:=hk.three;clear ar hk;go_wp2_with fail;obtain⟨dN,cB,hr2⟩:=Ck aA.o (.bool false) (.slice none 0 0) (.slice none 0 0);refine bodyPost_ret (v:= .tuple #[.agg #[.bool false,.slice none 0 0,.slice none 0 0],.int .i64 6]) (by simp[results,Tryz.results126,go_sem,dN,cB,hr2]) rfl ?_
  exact⟨_,by rw[HC.o];rfl,by rw[HC.o];exact BH.zero _ _,((ah.o.setCell (qad _) _).setCell (qad _) _).setCell (qad _) _⟩
 ·have HC:Hid (Bz l=0):=J (by unfold Bz;rw[if_neg (by omega),hg];rfl);have HG:=J hg;have hall:DP l=true:=by
   rw[Cx,qaM]at hg;exact hg.2
  have hpl:(AX l).length<=l.length:=by
   rcases Cy l with ⟨_,h1⟩|⟨_,_,h2⟩
   ·have:=congrArg List.length h1;simp at this;omega
   ·rw[h2];simp
  have nZ:=IY l;have ng:Hid (T1 l=MS (Bk (whole l++AX l)) (10 ^ (AX l).length)):=J rfl;have rh:Hid (T3 l=MV (Bk (whole l++AX l)) (10 ^ (AX l).length)):=J rfl;unfold DP at hall;clear hg;have lz:∀W',(binOp .add 9 (str (whole l)) (str (AX l))).run Tryz.prog W'= .ok (str (whole l++AX l)) W':=Ap _ _ (by omega);have hL:(whole l++AX l).length<=800:=by rw[qab];omega
  go_enter Tryz.func126,Tryz.ntmps126;go_wp2_with fail;refine(HD.o _).mono ?_
  rintro e w1 ⟨a,b,rfl,xB,ar⟩;obtain⟨rfl,rfl⟩:=xB HG.o;rw[HG.o];generalize whole l=W at *;generalize AX l=P at *;have ah:=J (((Ext.refl w).alloc (.cells #[.bool false,.slice none 0 0,.slice none 0 0] 26)).trans ar);have aA:=J ((Blk.new w 26 #[.bool false,.slice none 0 0,.slice none 0 0]).ext ar);obtain⟨cb,hcv,oT⟩:=DF w1 (W++P);have HBY:=J (fun j h=>Fl w1 (W++P) j h);have bR:=J (FX w1 (W++P));have bD:=J (OY w1 (W++P));clear ar xB HD HG;generalize W++P=L at *;generalize B9 w1 L=wb at *;have gf:=J hall;clear hall;go_wp2_with fail;clear hcv lz;go_loopw [7,28] (fun s7 s28 wr=>∃(k m:Nat) (A:Option Addr) (c:Nat),k<=L.length/\s28= .int .i64 (k:Int)/\s7= .slice A m c/\Own (w.heap.size+1) wr s7 (Af (Bk (L.take k)))/\Ext wb wr) (fun _ s28 _=>L.length-(intOf s28).toNat)
  case atStart=>exact⟨0,0,none,0,qal _,rfl,rfl,Own.none_ _ _,Ext.refl _⟩
  case round=>
   obtain⟨k,m,A,c,hk,rfl,rfl,ho,hx⟩:=hrel;have HO:=J ho;have HX:=J hx;have hsz:w.heap.size+1<=wr.heap.size:=by
    have h1:=aA.o.lt;have h2:=bD.o;have h3:=hx.size;omega
   have gZ:(Af (Bk (L.take k))).length<=800:=by
    refine F8 (Js _ ?_) (by rw[qas];omega);rw[qbI];intro x fp;exact qbI.1 gf.o x (List.mem_of_mem_take fp)
   by_cases hlt:k<L.length
   ·have fz:=(hx.cell bD.o).trans (HBY.o k hlt);have iJ:=BC L k hlt;have jU:Bx L[k]=true:=qbI.1 gf.o _ (qap hlt);have iz:=Jr L k hlt;rw[<-iJ]at iz;unfold Bx at jU;rw[<-iJ]at jU;simp only[qaM,decide_eq_true_eq]at jU;obtain⟨d1,d2⟩:=jU;generalize Ad L k=b at *;have E1:=J (show ((b:Int)-48)=((b-48:Nat):Int) by omega);have HS:=J (Fa wr _ _ 10 (b-48) ho.arr (by omega) (by decide) (by omega));rw[Ah]at HS;have HN:=J (show Bk (L.take (k+1))=Bk (L.take k)*10+(b-48) by rw[iz];omega);clear ho hx iJ iz gZ oT;go_wp2_with fail;rw[E1.o];refine HS.o.mono ?_
    rintro e w2 ⟨v2,rfl,bN,al⟩;rw[<-HN.o]at bN;have eF:=J (bN.mono hsz);have am:=J (HX.o.trans al);obtain⟨n2,A2,c2,rfl⟩:=bN.shape;clear bN al;go_wp2_with fail;go_roundw
    case rel=>exact⟨k+1,n2,A2,c2,by omega,by go_num,rfl,eF.o,am.o⟩
    case measure=>simp[intOf];omega
   ·obtain rfl:k=L.length:=by omega
    rw[qak (qad _)]at HO ho gZ;have iO:=J (FF wr false _ _ ho.arr (by omega));rw[Ah]at iO;have hsg:sgn false (Bk L)=((Bk L:Nat):Int):=rfl;rw[hsg]at iO;have Wt:=J (fun W'=>RJ W' P.length (by omega));have hte:(Af (10 ^ P.length)).length<=801:=F8 (k:=P.length+1) (Nat.pow_lt_pow_right (by decide) (by omega)) (by omega);have kG:=J (fun W' a b h1 h2=>RP W' a b ((Bk L:Nat):Int) ((10 ^ P.length:Nat):Int) h1 h2 (by rw[qcp];omega) (by rw[qcp];omega) (by
     have:0<10 ^ P.length:=qbB (by decide);omega))
    rw[(MO (Bk L) (10 ^ P.length)).1,(MO (Bk L) (10 ^ P.length)).2]at kG;have kY:=J ((ah.o.trans bR.o).trans hx);have my:=J (((aA.o.ext bR.o)).ext hx);clear ho hx gZ hte hsg oT;go_wp2_with fail;refine iO.o.mono ?_
    rintro e w5 ⟨v5,rfl,oE,hx5⟩;have yH:=J oE;obtain⟨b5,n5,A5,c5,rfl⟩:=oE.shape;have ba:=J (kY.o.trans hx5);have cm:=J (my.o.ext hx5);clear oE hx5;go_wp2_with fail;refine(Wt.o _).mono ?_
    rintro e w6 ⟨v6,rfl,tu,bz⟩;have yG:=J tu;obtain⟨b6,n6,A6,c6,rfl⟩:=tu.shape;have WZ:=J (yH.o.ext bz);have aZ:=J (ba.o.trans bz);have bK:=J (cm.o.ext bz);clear tu bz;go_wp2_with fail;refine(kG.o _ _ _ WZ.o.arr yG.o.arr).mono ?_
    rintro e w8 ⟨v8,rfl,cD,bS⟩;obtain⟨b8,n8,A8,c8,rk,sl,rT,rfl⟩:=cD.shape;have k9:=J cD;have cp:=J (aZ.o.trans bS);have hk:=bK.o.ext bS;have jM:=J hk;have pi:=J aZ.o.size;have pD:=J bK.o.lt;clear cD bS;have k0:=hk.three;clear hk;go_wp2_with fail;obtain⟨dN,cB,hr2⟩:=Ck jM.o (.bool b8) (.slice A8 n8 c8) (.slice sl rk rT);refine bodyPost_ret (v:= .tuple #[.agg #[.bool b8,.slice A8 n8 c8,.slice sl rk rT],.int .i64 0]) (by simp[results,Tryz.results126,go_sem,dN,cB,hr2]) rfl ?_
    have fx:=k9.o.put (w:=w) pD.o pi.o;exact⟨_,by rw[HC.o];rfl,by rw[HC.o,if_pos rfl,if_pos rfl,ng.o,rh.o];exact fx,((cp.o.setCell (qad _) _).setCell (qad _) _).setCell (qad _) _⟩
theorem KA(w:World)(l:List UInt8)(hl:l.length<=1073741824):Calls Tryz.prog 99 #[str l] w fun e w'=>e= .returned (.bool (CQ l))/\Ext w w':=by
 have HW:=J (fun W=>Qf W l hl);have HR:=J (fun W=>Kg W l);have h:CQ l=(CO l && !AY l):=by rw[Ca];rfl
 have H:=J h;clear h;cases hw:CO l
 ·rw[hw]at HW H;clear hw;go_enter Tryz.func99,Tryz.ntmps99;go_wp2_with fail;refine(HW.o _).mono ?_
  rintro e w1 ⟨rfl,rfl⟩;go_wp2_with fail;go_ret;exact⟨by rw[H.o];rfl,Ext.refl _⟩
 ·rw[hw]at HW H;clear hw;generalize AY l=r at *;go_enter Tryz.func99,Tryz.ntmps99;go_wp2_with fail;refine(HW.o _).mono ?_
  rintro e w1 ⟨rfl,rfl⟩;go_wp2_with fail;refine(HR.o _).mono ?_
  rintro e w2 ⟨rfl,hx⟩;have HX:=J hx;clear hx;go_wp2_with fail;go_ret;exact⟨by rw[H.o];rfl,HX.o⟩
theorem IE(t:List UInt8):(⟨t.toArray⟩:ByteArray).toList.isEmpty=(t == []):=by
 rw[<-decide_eq_emptyBytes,qbi];simp only[decide_eq_true_eq,beq_iff_eq];constructor
 ·intro h;have:=congrArg (fun b:ByteArray=>b.data.toList) h
  simpa using this
 ·intro h;subst h;rfl
def ndV(x:Nd):Value:= .agg #[.int .i64 x.kind,.int .i64 x.a,.int .i64 x.b,.int .i64 x.n,str x.text]
theorem KK(n:Int):decide (-64<=n/\n<=64)=(decide (-64<=n) && decide (n<=64)):=by simp
theorem KJ(w:World)(x:Nd)(hl:x.text.length<=1073741824):Calls Tryz.prog 173 #[ndV x] w fun e w'=>e= .returned (.bool (AA x))/\Ext w w':=by
 obtain⟨k,a,b,n,t⟩:=x;simp only[ndV]at hl ⊢;have HP:=J (fun W=>Il W t);have HN:=J (fun W=>KA W t hl);obtain⟨s,hs⟩:∃s:ByteArray,s=⟨t.toArray⟩:=⟨_,rfl⟩;have af:str t= .string s:=by rw[hs];rfl
 have hne:s.toList.isEmpty=(t == []):=by rw[hs];exact IE t
 rw[af]at HP HN ⊢;clear hs af;have hb0:=Blk.new w 95 #[.int .i64 k,.int .i64 a,.int .i64 b,.int .i64 n,.string s];have eo:=J ((Ext.refl w).alloc (.cells #[.int .i64 k,.int .i64 a,.int .i64 b,.int .i64 n,.string s] 95));have fN:=J hb0;have q0:=hb0.five;clear hb0;have hM:∀h:Bool,(AA ⟨k,a,b,n,t⟩=(Cr ⟨k,a,b,n,t⟩ && Cb ⟨k,a,b,n,t⟩)):=fun _=>rfl
 have key:(k=1)\/(k=2)\/(k≠1/\k≠2):=by omega
 rcases key with rfl|rfl|⟨eS,hk2⟩
 ·by_cases hc0:Bz t=0
  ·have H:Hid (AA ⟨1,a,b,n,t⟩=(n == 0)):=J (by unfold AA Cr Cb;simp[hc0]);have HC:=J hc0;clear hc0 hM hne;generalize AA ⟨1,a,b,n,t⟩=r at *;go_enter Tryz.func173,Tryz.ntmps173;go_wp2_with fail;refine(HP.o _).mono ?_
   rintro e w5 ⟨v5,rfl,bA,hx5⟩;obtain⟨b5,n5,A5,c5,n6,A6,c6,rfl⟩:=bA.shape;have bz:=hx5.alloc (.cells #[.bool b5,.slice A5 n5 c5,.slice A6 n6 c6] 26);have aZ:=J (eo.o.trans bz);have q0:=(fN.o.ext bz).five;clear bA hx5 bz;rw[HC.o];go_wp2_with fail;go_ret;exact⟨by rw[H.o];rfl,aZ.o⟩
  ·have H:Hid (AA ⟨1,a,b,n,t⟩=false):=J (by unfold AA Cr Cb;simp[hc0]);have oT:((Bz t:Int) != 0)=true:=by
    rw[bne_iff_ne];omega
   clear hc0 hM hne;generalize AA ⟨1,a,b,n,t⟩=r at *;generalize hce:(Bz t:Int)=ce at *;clear q0;go_enter Tryz.func173,Tryz.ntmps173;have q0:=fN.o.five;go_wp2_with fail;refine(HP.o _).mono ?_
   rintro e w5 ⟨v5,rfl,bA,hx5⟩;obtain⟨b5,n5,A5,c5,n6,A6,c6,rfl⟩:=bA.shape;have bz:=hx5.alloc (.cells #[.bool b5,.slice A5 n5 c5,.slice A6 n6 c6] 26);have aZ:=J (eo.o.trans bz);clear bA hx5 bz;rw[hce];go_wp2_with fail;go_ret;exact⟨by rw[H.o];rfl,aZ.o⟩
 ·have H:Hid (AA ⟨2,a,b,n,t⟩=(CQ t && (n == 0))):=J (by unfold AA Cr Cb;simp);generalize AA ⟨2,a,b,n,t⟩=r at *;clear hM hne;cases hnb:CQ t
  ·rw[hnb]at HN H;clear hnb;go_enter Tryz.func173,Tryz.ntmps173;go_wp2_with fail;refine(HN.o _).mono ?_
   rintro e w5 ⟨rfl,hx5⟩;have aZ:=J (eo.o.trans hx5);clear hx5;go_wp2_with fail;go_ret;exact⟨by rw[H.o];rfl,aZ.o⟩
  ·rw[hnb]at HN H;clear hnb;go_enter Tryz.func173,Tryz.ntmps173;go_wp2_with fail;refine(HN.o _).mono ?_
   rintro e w5 ⟨rfl,hx5⟩;have aZ:=J (eo.o.trans hx5);have q0:=(fN.o.ext hx5).five;clear hx5;go_wp2_with fail;go_ret;exact⟨by rw[H.o];rfl,aZ.o⟩
 ·have e1:(k == 1)=false:=by rw[beq_eq_false_iff_ne];omega
  have e2:(k == 2)=false:=by rw[beq_eq_false_iff_ne];omega
  have H1:Hid (AA ⟨k,a,b,n,t⟩=(s.toList.isEmpty && Cb ⟨k,a,b,n,t⟩)):=J (by rw[hne];unfold AA Cr;rw[if_neg eS,if_neg hk2]);have H2:Hid (Cb ⟨k,a,b,n,t⟩=if k=10 then decide (-64<=n/\n<=64) else n == 0):=J rfl;generalize AA ⟨k,a,b,n,t⟩=r at *;generalize Cb ⟨k,a,b,n,t⟩=m at *;clear hM hne eS hk2 HP HN hl;cases hsb:s.toList.isEmpty
  ·rw[hsb]at H1;go_enter Tryz.func173,Tryz.ntmps173;go_wp2_with fail;go_ret;exact⟨by rw[H1.o];rfl,eo.o⟩
  ·rw[hsb]at H1;by_cases h10:k=10
   ·subst h10;have H3:Hid (m=(decide (-64<=n) && decide (n<=64))):=J (by rw[H2.o,if_pos rfl,KK]);by_cases hn: -64<=n
    ·have hd:decide (-64<=n)=true:=decide_eq_true hn;rw[hd]at H3;go_enter Tryz.func173,Tryz.ntmps173;go_wp2_with fail;go_ret;exact⟨by rw[H1.o,H3.o];rfl,eo.o⟩
    ·have hd:decide (-64<=n)=false:=decide_eq_false hn;rw[hd]at H3;go_enter Tryz.func173,Tryz.ntmps173;go_wp2_with fail;go_ret;exact⟨by rw[H1.o,H3.o];rfl,eo.o⟩
   ·have Wf:(k == 10)=false:=by rw[beq_eq_false_iff_ne];exact h10
    have H3:Hid (m=(n == 0)):=J (by rw[H2.o,if_neg h10]);clear h10;go_enter Tryz.func173,Tryz.ntmps173;go_wp2_with fail;go_ret;exact⟨by rw[H1.o,H3.o];rfl,eo.o⟩
theorem DJ:(Tryz.prog.info? 3).map (fun i=>(i.zero,i.size,i.bytes))=some (some (.int .i64 0),1,8):=by kernel_rfl
def din(n:Nat):Value:= .int .i64 (n:Int)
def IL(B:Nat)(w:World)(v:Value)(l:List Nat):Prop:=Cp 3 B w v (l.map din)
def Ka(w:World)(v:Value)(l:List Nat):Prop:=CX w v (l.map din)
section
variable {w w':World} {v:Value} {l:List Nat} {B B':Nat}
theorem IL.nil(B:Nat)(w:World):IL B w (.slice none 0 0) []:=Cp.none_ _ B w
theorem IL.ext(h:IL B w v l)(hb:Ext w w'):IL B w' v l:=Cp.ext h hb
theorem IL.arr(h:IL B w v l):Ka w v l:=Cp.arr h
theorem Iu{j:Nat}(hj:j<l.length):(l.map din)[j]? =some (din l[j]):=by
 rw[qaD,qaa hj];rfl
theorem Ka.open(h:Ka w v l):∃A c,v= .slice A l.length c/\
  (0<l.length->∃b o,A=some ⟨b,o,none⟩/\b<w.heap.size/\∀j (_hj:j<l.length),w.cell? ⟨b,o+j,none⟩=some (.int .i64 ((l.getD j 0:Nat):Int))):=by
 obtain⟨A,c,rfl,h2,h3,h4⟩:=h;rw[qag]at h2 h4;refine⟨A,c,by rw[qag],fun hp=> ?_⟩;obtain⟨b,o,rfl,hlt,hc⟩:=h4 hp;exact⟨b,o,rfl,hlt,fun j hj=>by
  rw[hc j _ (Iu hj),qac,qaa hj];rfl⟩
theorem MH:∀u∈l.map din,u.oneCell'=true:=fun u hu=>by
 obtain⟨x,_,rfl⟩:=qbJ.1 hu;rfl
end
theorem Ka.fresh1(w:World)(n:Nat):Ka (w.alloc (.cells #[.int .i64 (n:Int)] 3)) (.slice (some ⟨w.heap.size,0,none⟩) 1 1) [n]:=CX.one (by simp[din])
theorem IW {w:World} {v src:Value} {xs ys:List Nat} {B:Nat} {ii:Array Oper} {rest:List Oper} {o:Oper} {a:Act} {Q:Exit->Act->World->Prop} (be:o.guard=none) (s x:Operand)
  (ho:o.op= .call { callee:= .builtin .append,args:= #[s,x],argTypes:= #[41,41] })
  (hs:a.eval s=v) (ac:IL B w v xs) (hx:a.eval x=src) (fr:Ka w src ys) (hn:xs.length+ys.length<=2147483648) (bx:B<=w.heap.size)
  (h:∀v' w',IL B w' v' (xs++ys)->w.grownBy w' (Im v)->Below B w w'->wpList Tryz.prog ii Q rest (a.put o.dst v') w'):wpList Tryz.prog ii Q (o::rest) a w:=by
 obtain⟨i0,hi,aR,hz1,aU⟩:=info_parts DJ;refine Dg be s x 41 ho 3 i0 _ 8 Tryz.underlying41 hi aR hz1 aU rfl hs ac hx fr MH (by simp only[qag];unfold maxLen;omega) (by simp only[qag];omega) bx (fun v' w' h1 h2 h3=>h v' w' ?_ h2 h3);unfold IL;rw[qaB];exact h1
def AZ(B:Nat)(w:World)(v:Value)(n:Nat)(S:List Nat):Prop:=w.ownsRow B 3 1 v n (S.map din)
def EG(v u:Value):Prop:=∀g,v.ownBlock=some g->u.ownBlock≠some g
theorem AZ.len{B n:Nat}{w:World}{v:Value}{S:List Nat}(h:AZ B w v n S):S.length=n:=by
 have:=h.1;rw[qag,qbj]at this;exact this
theorem AZ.get{B n g c:Nat}{w:World}{S:List Nat}(h:AZ B w (.slice (some ⟨g,0,none⟩) n c) n S)(j:Nat)(hj:j<n):w.cell? ⟨g,j,none⟩=some (.int .i64 ((S.getD j 0:Nat):Int)):=by
 have h1:=h.cellAt j (by omega);have h2:=h.len;rw[h1,qaD,qac,qaa (by omega)];rfl
theorem AZ.ext{B n:Nat}{w w':World}{v:Value}{S:List Nat}(h:AZ B w v n S)(hx:Ext w w'):AZ B w' v n S:=Ac h (fun _ _ hg=>Below.block hx _ hg)
theorem AZ.arr{B n:Nat}{w:World}{v:Value}{S:List Nat}(h:AZ B w v n S):Ka w v S:=by
 have hl:=h.len;rcases h.2 with ⟨rfl,h2⟩|⟨g,cap,cur,rfl,hb,hg,hc,hm,hs,ht⟩
 ·have:S=[]:=qau (by omega);subst this;exact CX.none_ w
 ·refine⟨_,_,by rw[qag,hl],by rw[qag,hl];exact hc,hm,fun _=>⟨g,0,rfl,?_,fun j u hj=> ?_⟩⟩
  ·rcases qam g w.heap.size with h|h
   ·exact h
   ·rw[qba h]at hg;cases hg
  ·have nA:j<n:=by
    rcases qam j n with h|h
    ·exact h
    ·rw[qaz (by rw[qag];omega)]at hj;cases hj
   rw[qaF,h.cellAt j (by omega),hj]
theorem AZ.blt{B n:Nat}{w:World}{v:Value}{S:List Nat}(h:AZ B w v n S)(g:Nat)(hg:v.ownBlock=some g):B<=g/\g<w.heap.size:=by
 rcases h.2 with ⟨rfl,h2⟩|⟨g',cap,cur,rfl,hb,hh,_⟩
 ·cases hg
 ·simp only[Value.ownBlock,qaw]at hg;subst hg;refine⟨hb,?_⟩;rcases qam g' w.heap.size with h|h
  ·exact h
  ·rw[qba h]at hh;cases hh
theorem EN {B n m:Nat} {W w':World} {v u:Value} {S D:List Nat} {o:Obj} {g H:Nat} {u':Value} (h4:AZ B W v n S) (h5:AZ B W u m D) (jV:EG v u) (hB:B<=W.heap.size)
  (hgr:(W.alloc o).grownBy w' v.ownBlock) (hat:v.ownBlock=some g\/g=H) (hH:(W.alloc o).heap.size=H) (hu:u'.ownBlock=some g):AZ B w' u m D/\EG u' u/\Below B W w':=by
 have hs:(W.alloc o).heap.size=W.heap.size+1:=by simp
 refine⟨?_,fun k hk he=> ?_,?_⟩
 ·refine(h5.kept (row:=none) (World.grownBy_alloc W o none) (by cases hv:u.ownBlock<;>simp)).kept hgr ?_
  cases hu5:u.ownBlock with
  |none=>exact .inl rfl
  |some k=>exact .inr (fun he=>jV k he.symm hu5)
 ·rw[hu]at hk;injection hk with hk
  subst hk;rcases hat with hat|hat
  ·exact jV g hat he
  ·have:=(h5.blt g he).2;omega
 ·exact Below.grown ((Below.refl B W).alloc hB o) hgr (by omega) (fun k hk=>(h4.blt k hk).1)
theorem EG.symm{v u:Value}(h:EG v u):EG u v:=fun g h1 h2=>h g h2 h1
def Rn(l:List Nd)(w:World)(e:Ending)(w':World):Prop:=
 ∃v1 v2,e= .returned (.tuple #[v1,v2])/\Ext w w'/\((Ez l=none/\v1= .slice none 0 0/\v2= .slice none 0 0)\/∃S D,Ez l=some (S,D)/\S.length=l.length/\D.length=l.length/\Ka w' v1 S/\Ka w' v2 D)
structure J1 (l:List Nd) (w:World) (i:Nat) (S D:List Nat) (v u:Value) (wr:World):Prop where
 ok:O3 S D
 go:Gw [] [] l=Gw S D (l.drop i)
 r4:AZ w.heap.size wr v i S
 r5:AZ w.heap.size wr u i D
 apart:EG v u
 ext:Ext w wr
theorem DZ{l:List Nd}{i:Nat}{nd:Nd}(h:l[i]? =some nd):l.drop i=nd::l.drop (i+1):=by
 obtain⟨hi,he⟩:=qai.1 h;rw[qbQ hi,he]
theorem J1.bad{l:List Nd}{w wr:World}{i:Nat}{S D:List Nat}{v u:Value}{nd:Nd}(h:J1 l w i S D v u wr)(hn:l[i]? =some nd)(hs:AU S D nd=none):Ez l=none:=by
 have h1:=h.go;rw[DZ hn,Gw,hs]at h1;unfold Ez;rw[h1]
theorem J1.next {l:List Nd} {w wr w':World} {i s d:Nat} {S D:List Nat} {v u v' u':Value} {nd:Nd} (h:J1 l w i S D v u wr) (hn:l[i]? =some nd) (hs:AU S D nd=some (s,d))
  (h4:AZ w.heap.size w' v' (i+1) (S++[s])) (h5:AZ w.heap.size w' u' (i+1) (D++[d])) (jV:EG v' u') (hx:Ext w w'):J1 l w (i+1) (S++[s]) (D++[d]) v' u' w':=by
 have h1:=h.go;rw[DZ hn,Gw,hs]at h1;exact⟨(h.ok.step hs).2.2,h1,h4,h5,jV,hx⟩
section
variable {S D:List Nat} {k a b n:Int} {t:List UInt8}
theorem NJ(h:Al k= -1):AU S D ⟨k,a,b,n,t⟩=none:=by
 unfold AU;rw[if_pos (.inl (by simp only[h];decide))]
theorem E7(h:AA ⟨k,a,b,n,t⟩=false):AU S D ⟨k,a,b,n,t⟩=none:=by
 unfold AU;rw[if_pos (.inr (.inl h))]
theorem Rx(h:Al k=0)(h2:a≠0):AU S D ⟨k,a,b,n,t⟩=none:=by
 unfold AU;rw[if_pos (.inr (.inr (.inl ⟨by simp only[h];decide,h2⟩)))]
theorem Ma(h:Al k<2)(h2:b≠0):AU S D ⟨k,a,b,n,t⟩=none:=by
 unfold AU;rw[if_pos (.inr (.inr (.inr ⟨h,h2⟩)))]
theorem RA(h:Al k=0)(hp:AA ⟨k,0,0,n,t⟩=true):AU S D ⟨k,0,0,n,t⟩=some (1,1):=by
 unfold AU;rw[hp];simp only[h];simp
theorem Rz(h:Al k=1)(hp:AA ⟨k,a,0,n,t⟩=true)(ha:a=(S.length:Int)-1)(h0:0<=a):AU S D ⟨k,a,0,n,t⟩=some (S.getD a.toNat 0+1,D.getD a.toNat 0+1):=by
 unfold AU;rw[hp];simp only[h];rw[if_neg (by simp),if_neg (by decide),if_pos trivial,if_neg (by omega),Nat.max_eq_right (by omega)]
theorem Ij(h:Al k=1)(ha:a≠(S.length:Int)-1\/a<0):AU S D ⟨k,a,b,n,t⟩=none:=by
 unfold AU;simp only[h];split
 ·rfl
 ·simp
theorem Ii(h:Al k=2)(ha:b≠(S.length:Int)-1\/b<0):AU S D ⟨k,a,b,n,t⟩=none:=by
 unfold AU;simp only[h];split
 ·rfl
 ·simp
theorem Lh(h:Al k=2)(ha:a≠(S.length:Int)-((S.getD b.toNat 0+1:Nat):Int)\/a<0):AU S D ⟨k,a,b,n,t⟩=none:=by
 unfold AU;simp only[h];split
 ·rfl
 ·simp only[Int.reduceEq,if_false];split
  ·rfl
  ·first|rfl|simp[ha]
theorem Ry(h:Al k=2)(hp:AA ⟨k,a,b,n,t⟩=true)(hb:b=(S.length:Int)-1)(hb0:0<=b)(ha:a=(S.length:Int)-((S.getD b.toNat 0+1:Nat):Int))(h0:0<=a):
  AU S D ⟨k,a,b,n,t⟩=some (S.getD b.toNat 0+1+S.getD a.toNat 0,max (D.getD b.toNat 0+1) (D.getD a.toNat 0+1)):=by
 unfold AU;rw[hp];simp only[h];rw[if_neg (by simp),if_neg (by decide),if_neg (by decide),if_neg (by omega),if_neg (by omega),Nat.max_eq_right (a:=1) (by omega)]
end
theorem FO(k:Int):Al k= -1\/Al k=0\/Al k=1\/Al k=2:=by
 unfold Al
 repeat' split
 all_goals simp
theorem PS(w:World)(v:Value)(l:List Nd)(hr:RNd w v l)(hl:l.length<=1000000)(dy:∀x∈l,x.text.length<=1073741824):Calls Tryz.prog 131 #[v] w (Rn l w):=by
 have HR:=J hr;have fb:=J dy;obtain⟨i0,hi,aR,hz1,aU⟩:=info_parts DJ;obtain⟨A,c,rfl,_⟩:=hr;clear dy;have aP:Hid (J1 l w 0 [] [] (.slice none 0 0) (.slice none 0 0) w):=J ⟨O3.nil,rfl,⟨rfl,.inl ⟨rfl,rfl⟩⟩,⟨rfl,.inl ⟨rfl,rfl⟩⟩,(fun g h=>by cases h),Ext.refl w⟩;obtain⟨n,hn⟩:∃n,n=l.length:=⟨_,rfl⟩;have HN:=J hn;rw[<-hn]at hl ⊢;clear hn;go_enter Tryz.func131,Tryz.ntmps131;go_wp2_with fail;go_loopw [4,5,14] (fun s4 s5 s14 wr=>∃(i:Nat) (S D:List Nat),i<=n/\s14= .int .i64 (i:Int)/\J1 l w i S D s4 s5 wr) (fun _ _ s14 _=>n-(intOf s14).toNat)
 case atStart=>exact⟨0,[],[],qal _,rfl,aP.o⟩
 case round=>
  obtain⟨i,S,D,hin,rfl,aL⟩:=hrel;have HI:=J aL;obtain⟨A4,c4,rfl⟩:=Ao aL.r4;obtain⟨A5,c5,rfl⟩:=Ao aL.r5;clear aP;by_cases hlt:i<n
  ·have hil:i<l.length:=by rw[<-HN.o];exact hlt
   have YV:=J hil;obtain⟨A',c',he,hc⟩:=HR.o.ext aL.ext;obtain⟨b,o,Wa,hb,hc⟩:=hc (by omega);obtain⟨nd,hnd,hat,gT⟩:∃nd,l[i]? =some nd/\Hj wr b (o+i*5) nd/\nd.text.length<=1073741824:=⟨l[i],qaa hil,hc i hil,fb.o _ (qap hil)⟩
   injection he with he1 he2 he3
   subst he1;clear he2 he3;subst Wa;have ao:Hid (AU S D nd=none->Ez l=none):=J (fun h=>aL.bad hnd h);have aW:=J hnd;clear hnd hc;have hw:wr.heap.size>=w.heap.size:=aL.ext.size;have HX:=J aL.ext;have pT:=aL.r4.len;have jT:=aL.r5.len;have pm:=J pT;have zT:=J jT;have UO:=aL.ok.size;have VE:=aL.ok.depth;rw[pT]at UO VE;have Ww:=J UO;have si:=J VE;have cJ:=J aL.r4;have bH:=J aL.r5;clear aL hil pT jT UO VE;obtain⟨kd,na,nb,nn,nt⟩:=nd;have bI:=J (fun W=>KJ W ⟨kd,na,nb,nn,nt⟩ gT);simp only[ndV]at bI;obtain⟨k0,k1,k2,k3,k4⟩:=hat;simp only at k0 k1 k2 k3 k4;obtain⟨s,hs⟩:∃s:ByteArray,s=⟨nt.toArray⟩:=⟨_,rfl⟩;have af:str nt= .string s:=by rw[hs];rfl
   rw[af]at bI k4;clear hs af gT;have az:=J (fun W=>Bf W kd);have key:=FO kd;have ZO:∃p,p=AA ⟨kd,na,nb,nn,nt⟩:=⟨_,rfl⟩;obtain⟨p,hp⟩:=ZO;rw[<-hp]at bI;have hb0:=Blk.new wr 95 #[.int .i64 kd,.int .i64 na,.int .i64 nb,.int .i64 nn,.string s];have aM:=J ((Ext.refl wr).alloc (.cells #[.int .i64 kd,.int .i64 na,.int .i64 nb,.int .i64 nn,.string s] 95));have cO:=J hb0;have q0:=hb0.five;clear hb0;rcases key with ay|ay|ay|ay
   ·have aQ:=J (ao.o (NJ ay));rw[ay]at az;clear ay hp ao;go_wp2_with fail;refine(az.o _).mono ?_
    rintro e w2 ⟨rfl,rfl⟩;go_wp2_with fail;go_ret2;exact⟨_,_,rfl,HX.o.trans aM.o,.inl ⟨aQ.o,rfl,rfl⟩⟩
   ·cases hpb:p
    ·rw[hpb]at hp bI;clear hpb;have aQ:=J (ao.o (E7 hp.symm));rw[ay]at az;clear ay hp ao;go_wp2_with fail;refine(az.o _).mono ?_
     rintro e w2 ⟨rfl,rfl⟩;go_wp2_with fail;refine(bI.o _).mono ?_
     rintro e w3 ⟨rfl,ae⟩;have bR:=J (HX.o.trans (aM.o.trans ae));have aC:=J (cO.o.ext ae);have q0:=aC.o.five;have ep:=J (cJ.o.ext (aM.o.trans ae));have eN:=J (bH.o.ext (aM.o.trans ae));have dO:w.heap.size<=w3.heap.size:=bR.o.size;clear ae;go_wp2_with fail;go_ret2;exact⟨_,_,rfl,bR.o,.inl ⟨aQ.o,rfl,rfl⟩⟩
    ·rw[hpb]at hp bI;clear hpb;by_cases ha:na=0
     ·subst ha;by_cases hb:nb=0
      ·subst hb;have fD:Hid (AU S D ⟨kd,0,0,nn,nt⟩=some (1,1)):=J (RA ay hp.symm);rw[ay]at az;clear ay hp;go_wp2_with fail;refine(az.o _).mono ?_
       rintro e w2 ⟨rfl,rfl⟩;go_wp2_with fail;refine(bI.o _).mono ?_
       rintro e w3 ⟨rfl,ae⟩;have bR:=J (HX.o.trans (aM.o.trans ae));have aC:=J (cO.o.ext ae);have q0:=aC.o.five;have ep:=J (cJ.o.ext (aM.o.trans ae));have eN:=J (bH.o.ext (aM.o.trans ae));have dO:w.heap.size<=w3.heap.size:=bR.o.size;clear ae;have cI:=J (fD.o);have aI:Hid (i+1<=maxLen):=J (by unfold maxLen;omega);have aH:Hid ((i+1)*8<=140737488355328):=J (by omega);have bp:Hid ((w3.alloc (.cells #[.int .i64 1] 3)).ownsRow w.heap.size 3 1 (.slice A4 i c4) i (S.map din)):=J (Ac ep.o (fun k _ hk=>Below.heap_alloc _ _ k hk));have a9:=J (AS w3 3 [.int .i64 1]);have aO:Hid (w.heap.size<=(w3.alloc (.cells #[.int .i64 1] 3)).heap.size):=J (by simp;omega);clear ao;go_wp2_with (at_builtin;first|(refine wpList_append_lies _ rfl _ _ 41 rfl w.heap.size 3 i0 _ 1 8 Tryz.underlying41 hi aR hz1 aU rfl (by decide) (.slice A4 i c4) i (S.map din) rfl bp.o ⟨w3.heap.size,0,none⟩ 1 1 [.int .i64 1] rfl rfl a9.o (by simp[Value.oneCell']) (by decide) aI.o aH.o aO.o _ rfl ?_;intro g6 c6 w6 aq aw aG bu;have cS:=J (EN (u':= .slice (some ⟨g6,0,none⟩) (i+1) c6) ep.o eN.o (HI.o.apart) dO aw aG rfl rfl);have cj:Hid (AZ w.heap.size w6 (.slice (some ⟨g6,0,none⟩) (i+1) c6) (i+1) (S++[1])):=J (by unfold AZ;rw[qaB];exact aq);have ma:w.heap.size<=w6.heap.size:=qaf dO cS.o.2.2.size;clear aq aw aG;have fc:Hid ((w6.alloc (.cells #[.int .i64 1] 3)).ownsRow w.heap.size 3 1 (.slice A5 i c5) i (D.map din)):=J (Ac cS.o.1 (fun k _ hk=>Below.heap_alloc _ _ k hk));have fY:=J (AS w6 3 [.int .i64 1]);have pM:Hid (w.heap.size<=(w6.alloc (.cells #[.int .i64 1] 3)).heap.size):=J (by simp;omega))|(refine wpList_append_lies _ rfl _ _ 41 rfl w.heap.size 3 i0 _ 1 8 Tryz.underlying41 hi aR hz1 aU rfl (by decide) (.slice A5 i c5) i (D.map din) rfl fc.o ⟨w6.heap.size,0,none⟩ 1 1 [.int .i64 1] rfl rfl fY.o (by simp[Value.oneCell']) (by decide) aI.o aH.o pM.o _ rfl ?_;intro g7 c7 w7 aK cF dH mL;have dB:=J (EN (u':= .slice (some ⟨g7,0,none⟩) (i+1) c7) cS.o.1 cj.o (cS.o.2.1.symm) ma cF dH rfl rfl);have jH:Hid (AZ w.heap.size w7 (.slice (some ⟨g7,0,none⟩) (i+1) c7) (i+1) (D++[1])):=J (by unfold AZ;rw[qaB];exact aK);clear aK cF dH));go_wp2_with fail;go_roundw
       case rel=>exact⟨i+1,_,_,by omega,by go_num,HI.o.next aW.o cI.o dB.o.1 jH.o dB.o.2.1.symm (bR.o.more (cS.o.2.2.trans dB.o.2.2))⟩
       case measure=>simp[intOf];omega
      ·have fA:(nb != 0)=true:=by rw[bne_iff_ne];exact hb
       have aQ:=J (ao.o (Ma (by omega) hb));rw[ay]at az;clear ay hp ao hb;go_wp2_with fail;refine(az.o _).mono ?_
       rintro e w2 ⟨rfl,rfl⟩;go_wp2_with fail;refine(bI.o _).mono ?_
       rintro e w3 ⟨rfl,ae⟩;have bR:=J (HX.o.trans (aM.o.trans ae));have aC:=J (cO.o.ext ae);have q0:=aC.o.five;have ep:=J (cJ.o.ext (aM.o.trans ae));have eN:=J (bH.o.ext (aM.o.trans ae));have dO:w.heap.size<=w3.heap.size:=bR.o.size;clear ae;go_wp2_with fail;go_ret2;exact⟨_,_,rfl,bR.o,.inl ⟨aQ.o,rfl,rfl⟩⟩
     ·have xB:(na != 0)=true:=by rw[bne_iff_ne];exact ha
      have aQ:=J (ao.o (Rx ay ha));rw[ay]at az;clear ay hp ao ha;go_wp2_with fail;refine(az.o _).mono ?_
      rintro e w2 ⟨rfl,rfl⟩;go_wp2_with fail;refine(bI.o _).mono ?_
      rintro e w3 ⟨rfl,ae⟩;have bR:=J (HX.o.trans (aM.o.trans ae));have aC:=J (cO.o.ext ae);have q0:=aC.o.five;have ep:=J (cJ.o.ext (aM.o.trans ae));have eN:=J (bH.o.ext (aM.o.trans ae));have dO:w.heap.size<=w3.heap.size:=bR.o.size;clear ae;go_wp2_with fail;go_ret2;exact⟨_,_,rfl,bR.o,.inl ⟨aQ.o,rfl,rfl⟩⟩
   ·cases hpb:p
    ·rw[hpb]at hp bI;clear hpb;have aQ:=J (ao.o (E7 hp.symm));rw[ay]at az;clear ay hp ao;go_wp2_with fail;refine(az.o _).mono ?_
     rintro e w2 ⟨rfl,rfl⟩;go_wp2_with fail;refine(bI.o _).mono ?_
     rintro e w3 ⟨rfl,ae⟩;have bR:=J (HX.o.trans (aM.o.trans ae));have aC:=J (cO.o.ext ae);have q0:=aC.o.five;have ep:=J (cJ.o.ext (aM.o.trans ae));have eN:=J (bH.o.ext (aM.o.trans ae));have dO:w.heap.size<=w3.heap.size:=bR.o.size;clear ae;go_wp2_with fail;go_ret2;exact⟨_,_,rfl,bR.o,.inl ⟨aQ.o,rfl,rfl⟩⟩
    ·rw[hpb]at hp bI;clear hpb;by_cases hb:nb=0
     ·subst hb;have lS:IntKind.i64.wrap ((i:Int)-1)=(i:Int)-1:=IntWalk.i64_in _ (by omega);by_cases hz:na=(i:Int)-1
      ·by_cases hz0':na<0
       ·have vB:(na != (i:Int)-1)=false:=by rw[hz];simp
        have vA:decide (na<0)=true:=decide_eq_true hz0';have aQ:=J (ao.o (Ij ay (.inr hz0')));rw[ay]at az;clear ay hp ao hz;go_wp2_with fail;refine(az.o _).mono ?_
        rintro e w2 ⟨rfl,rfl⟩;go_wp2_with fail;refine(bI.o _).mono ?_
        rintro e w3 ⟨rfl,ae⟩;have bR:=J (HX.o.trans (aM.o.trans ae));have aC:=J (cO.o.ext ae);have q0:=aC.o.five;have ep:=J (cJ.o.ext (aM.o.trans ae));have eN:=J (bH.o.ext (aM.o.trans ae));have dO:w.heap.size<=w3.heap.size:=bR.o.size;clear ae;go_wp2_with fail;go_ret2;exact⟨_,_,rfl,bR.o,.inl ⟨aQ.o,rfl,rfl⟩⟩
       ·have ij:0<=na:=by omega
        have vB:(na != (i:Int)-1)=false:=by rw[hz];simp
        have vA:decide (na<0)=false:=decide_eq_false hz0';have km:0<i:=by omega
        obtain⟨g4,d4,gg,oY,Ve⟩:=cJ.o.form km;injection gg with gg _ he5
        subst gg;subst he5;obtain⟨g5,d5,gg,tL,tl⟩:=bH.o.form km;injection gg with gg _ he5
        subst gg;subst he5;have nR:na.toNat<i:=by omega
        have mp:Hid (∀W,AZ w.heap.size W (.slice (some ⟨g4,0,none⟩) i c4) i S->W.cell? ⟨g4,na.toNat,none⟩=some (.int .i64 ((S.getD na.toNat 0:Nat):Int))):=J (fun W h=>h.get _ nR);have nO:Hid (∀W,AZ w.heap.size W (.slice (some ⟨g5,0,none⟩) i c5) i D->W.cell? ⟨g5,na.toNat,none⟩=some (.int .i64 ((D.getD na.toNat 0:Nat):Int))):=J (fun W h=>h.get _ nR);have hsb:=Ww.o na.toNat nR;have uZ:=si.o na.toNat nR;have nV:na<(i:Int):=by omega
        have fD:Hid (AU S D ⟨kd,na,0,nn,nt⟩=some (S.getD na.toNat 0+1,D.getD na.toNat 0+1)):=J (Rz ay hp.symm (by rw[pm.o];exact hz) ij);generalize S.getD na.toNat 0=sv at *;generalize D.getD na.toNat 0=dv at *;have aB:IntKind.i64.wrap (1+(sv:Int))=((sv+1:Nat):Int):=by rw[IntWalk.i64_in _ (by omega)];omega
        have aY:IntKind.i64.wrap ((dv:Int)+1)=((dv+1:Nat):Int):=by rw[IntWalk.i64_in _ (by omega)];omega
        have gY:max (1:Int) ((dv+1:Nat):Int)=((dv+1:Nat):Int):=by omega
        obtain⟨s1,dU⟩:∃s1,s1=sv+1:=⟨_,rfl⟩;obtain⟨d1,ec⟩:∃d1,d1=dv+1:=⟨_,rfl⟩;rw[<-dU]at aB fD;rw[<-ec]at aY gY fD;have og:s1<=1000001:=by omega
        have VG:d1<=1000001:=by omega
        rw[ay]at az;clear ay hp hz dU ec hsb uZ;go_wp2_with fail;refine(az.o _).mono ?_
        rintro e w2 ⟨rfl,rfl⟩;go_wp2_with fail;refine(bI.o _).mono ?_
        rintro e w3 ⟨rfl,ae⟩;have bR:=J (HX.o.trans (aM.o.trans ae));have aC:=J (cO.o.ext ae);have q0:=aC.o.five;have ep:=J (cJ.o.ext (aM.o.trans ae));have eN:=J (bH.o.ext (aM.o.trans ae));have dO:w.heap.size<=w3.heap.size:=bR.o.size;clear ae;have ej:=mp.o w3 ep.o;have bA:=nO.o w3 eN.o;go_upto_region 15 with fail;go_region
        all_goals
         obtain⟨w8,dx⟩:∃w8,w8=w3.drew:=⟨_,rfl⟩;rw[<-dx];have dS:Hid (Ext w3 w8):=J (by rw[dx];exact(Ext.refl w3).drew);have iK:=J (bR.o.trans dS.o);have kN:=J (aC.o.ext dS.o);have q0:=kN.o.five;have lM:=J (ep.o.ext dS.o);have nl:=J (eN.o.ext dS.o);have oF:w.heap.size<=w8.heap.size:=iK.o.size;clear dx;have cI:=J (fD.o);have aI:Hid (i+1<=maxLen):=J (by unfold maxLen;omega);have aH:Hid ((i+1)*8<=140737488355328):=J (by omega);have bp:Hid ((w8.alloc (.cells #[.int .i64 ((s1:Nat):Int)] 3)).ownsRow w.heap.size 3 1 (.slice (some ⟨g4,0,none⟩) i c4) i (S.map din)):=J (Ac lM.o (fun k _ hk=>Below.heap_alloc _ _ k hk));have a9:=J (AS w8 3 [.int .i64 ((s1:Nat):Int)]);have aO:Hid (w.heap.size<=(w8.alloc (.cells #[.int .i64 ((s1:Nat):Int)] 3)).heap.size):=J (by simp;omega);go_wp2_with (at_builtin;first|(refine wpList_append_lies _ rfl _ _ 41 rfl w.heap.size 3 i0 _ 1 8 Tryz.underlying41 hi aR hz1 aU rfl (by decide) (.slice (some ⟨g4,0,none⟩) i c4) i (S.map din) rfl bp.o ⟨w8.heap.size,0,none⟩ 1 1 [.int .i64 ((s1:Nat):Int)] rfl rfl a9.o (by simp[Value.oneCell']) (by decide) aI.o aH.o aO.o _ rfl ?_;intro g6 c6 w6 aq aw aG bu;have cS:=J (EN (u':= .slice (some ⟨g6,0,none⟩) (i+1) c6) lM.o nl.o (HI.o.apart) oF aw aG rfl rfl);have cj:Hid (AZ w.heap.size w6 (.slice (some ⟨g6,0,none⟩) (i+1) c6) (i+1) (S++[s1])):=J (by unfold AZ;rw[qaB];exact aq);have ma:w.heap.size<=w6.heap.size:=qaf oF cS.o.2.2.size;clear aq aw aG;have fc:Hid ((w6.alloc (.cells #[.int .i64 ((d1:Nat):Int)] 3)).ownsRow w.heap.size 3 1 (.slice (some ⟨g5,0,none⟩) i c5) i (D.map din)):=J (Ac cS.o.1 (fun k _ hk=>Below.heap_alloc _ _ k hk));have fY:=J (AS w6 3 [.int .i64 ((d1:Nat):Int)]);have pM:Hid (w.heap.size<=(w6.alloc (.cells #[.int .i64 ((d1:Nat):Int)] 3)).heap.size):=J (by simp;omega))|(refine wpList_append_lies _ rfl _ _ 41 rfl w.heap.size 3 i0 _ 1 8 Tryz.underlying41 hi aR hz1 aU rfl (by decide) (.slice (some ⟨g5,0,none⟩) i c5) i (D.map din) rfl fc.o ⟨w6.heap.size,0,none⟩ 1 1 [.int .i64 ((d1:Nat):Int)] rfl rfl fY.o (by simp[Value.oneCell']) (by decide) aI.o aH.o pM.o _ rfl ?_;intro g7 c7 w7 aK cF dH mL;have dB:=J (EN (u':= .slice (some ⟨g7,0,none⟩) (i+1) c7) cS.o.1 cj.o (cS.o.2.1.symm) ma cF dH rfl rfl);have jH:Hid (AZ w.heap.size w7 (.slice (some ⟨g7,0,none⟩) (i+1) c7) (i+1) (D++[d1])):=J (by unfold AZ;rw[qaB];exact aK);clear aK cF dH));go_wp2_with fail;go_roundw
         case rel=>exact⟨i+1,_,_,by omega,by go_num,HI.o.next aW.o cI.o dB.o.1 jH.o dB.o.2.1.symm (iK.o.more (cS.o.2.2.trans dB.o.2.2))⟩
         case measure=>simp[intOf];omega
      ·have vB:(na != (i:Int)-1)=true:=by rw[bne_iff_ne];exact hz
       have aQ:=J (ao.o (Ij ay (.inl (by rw[pm.o];exact hz))));rw[ay]at az;clear ay hp ao hz;go_wp2_with fail;refine(az.o _).mono ?_
       rintro e w2 ⟨rfl,rfl⟩;go_wp2_with fail;refine(bI.o _).mono ?_
       rintro e w3 ⟨rfl,ae⟩;have bR:=J (HX.o.trans (aM.o.trans ae));have aC:=J (cO.o.ext ae);have q0:=aC.o.five;have ep:=J (cJ.o.ext (aM.o.trans ae));have eN:=J (bH.o.ext (aM.o.trans ae));have dO:w.heap.size<=w3.heap.size:=bR.o.size;clear ae;go_wp2_with fail;go_ret2;exact⟨_,_,rfl,bR.o,.inl ⟨aQ.o,rfl,rfl⟩⟩
     ·have fA:(nb != 0)=true:=by rw[bne_iff_ne];exact hb
      have aQ:=J (ao.o (Ma (by omega) hb));rw[ay]at az;clear ay hp ao hb;go_wp2_with fail;refine(az.o _).mono ?_
      rintro e w2 ⟨rfl,rfl⟩;go_wp2_with fail;refine(bI.o _).mono ?_
      rintro e w3 ⟨rfl,ae⟩;have bR:=J (HX.o.trans (aM.o.trans ae));have aC:=J (cO.o.ext ae);have q0:=aC.o.five;have ep:=J (cJ.o.ext (aM.o.trans ae));have eN:=J (bH.o.ext (aM.o.trans ae));have dO:w.heap.size<=w3.heap.size:=bR.o.size;clear ae;go_wp2_with fail;go_ret2;exact⟨_,_,rfl,bR.o,.inl ⟨aQ.o,rfl,rfl⟩⟩
   ·cases hpb:p
    ·rw[hpb]at hp bI;clear hpb;have aQ:=J (ao.o (E7 hp.symm));rw[ay]at az;clear ay hp ao;go_wp2_with fail;refine(az.o _).mono ?_
     rintro e w2 ⟨rfl,rfl⟩;go_wp2_with fail;refine(bI.o _).mono ?_
     rintro e w3 ⟨rfl,ae⟩;have bR:=J (HX.o.trans (aM.o.trans ae));have aC:=J (cO.o.ext ae);have q0:=aC.o.five;have ep:=J (cJ.o.ext (aM.o.trans ae));have eN:=J (bH.o.ext (aM.o.trans ae));have dO:w.heap.size<=w3.heap.size:=bR.o.size;clear ae;go_wp2_with fail;go_ret2;exact⟨_,_,rfl,bR.o,.inl ⟨aQ.o,rfl,rfl⟩⟩
    ·rw[hpb]at hp bI;clear hpb;have lS:IntKind.i64.wrap ((i:Int)-1)=(i:Int)-1:=IntWalk.i64_in _ (by omega);by_cases hz:nb=(i:Int)-1
     ·by_cases hz0':nb<0
      ·have vB:(nb != (i:Int)-1)=false:=by rw[hz];simp
       have vA:decide (nb<0)=true:=decide_eq_true hz0';have aQ:=J (ao.o (Ii ay (.inr hz0')));rw[ay]at az;clear ay hp ao hz;go_wp2_with fail;refine(az.o _).mono ?_
       rintro e w2 ⟨rfl,rfl⟩;go_wp2_with fail;refine(bI.o _).mono ?_
       rintro e w3 ⟨rfl,ae⟩;have bR:=J (HX.o.trans (aM.o.trans ae));have aC:=J (cO.o.ext ae);have q0:=aC.o.five;have ep:=J (cJ.o.ext (aM.o.trans ae));have eN:=J (bH.o.ext (aM.o.trans ae));have dO:w.heap.size<=w3.heap.size:=bR.o.size;clear ae;go_wp2_with fail;go_ret2;exact⟨_,_,rfl,bR.o,.inl ⟨aQ.o,rfl,rfl⟩⟩
      ·have ij:0<=nb:=by omega
       have vB:(nb != (i:Int)-1)=false:=by rw[hz];simp
       have vA:decide (nb<0)=false:=decide_eq_false hz0';have km:0<i:=by omega
       obtain⟨g4,d4,gg,oY,Ve⟩:=cJ.o.form km;injection gg with gg _ he5
       subst gg;subst he5;obtain⟨g5,d5,gg,tL,tl⟩:=bH.o.form km;injection gg with gg _ he5
       subst gg;subst he5;have nR:nb.toNat<i:=by omega
       have mp:Hid (∀W,AZ w.heap.size W (.slice (some ⟨g4,0,none⟩) i c4) i S->W.cell? ⟨g4,nb.toNat,none⟩=some (.int .i64 ((S.getD nb.toNat 0:Nat):Int))):=J (fun W h=>h.get _ nR);have nO:Hid (∀W,AZ w.heap.size W (.slice (some ⟨g5,0,none⟩) i c5) i D->W.cell? ⟨g5,nb.toNat,none⟩=some (.int .i64 ((D.getD nb.toNat 0:Nat):Int))):=J (fun W h=>h.get _ nR);have hsb:=Ww.o nb.toNat nR;have uZ:=si.o nb.toNat nR;have nV:nb<(i:Int):=by omega
       have fD:Hid (∀q:na=(i:Int)-((S.getD nb.toNat 0+1:Nat):Int),0<=na->AU S D ⟨kd,na,nb,nn,nt⟩=some (S.getD nb.toNat 0+1+S.getD na.toNat 0,max (D.getD nb.toNat 0+1) (D.getD na.toNat 0+1))):=J (fun q h=>Ry ay hp.symm (by rw[pm.o];exact hz) ij (by rw[pm.o];exact q) h);have aX:Hid (na≠(i:Int)-((S.getD nb.toNat 0+1:Nat):Int)\/na<0->Ez l=none):=J (fun h=>ao.o (Lh ay (by rw[pm.o];exact h)));have lW:∀q:na=(i:Int)-((S.getD nb.toNat 0+1:Nat):Int),0<=na->na.toNat<i:=fun q h=>by omega
       generalize S.getD nb.toNat 0=sv at *;generalize D.getD nb.toNat 0=dv at *;have aB:IntKind.i64.wrap (1+(sv:Int))=((sv+1:Nat):Int):=by rw[IntWalk.i64_in _ (by omega)];omega
       have aY:IntKind.i64.wrap ((dv:Int)+1)=((dv+1:Nat):Int):=by rw[IntWalk.i64_in _ (by omega)];omega
       have gY:max (1:Int) ((dv+1:Nat):Int)=((dv+1:Nat):Int):=by omega
       obtain⟨s1,dU⟩:∃s1,s1=sv+1:=⟨_,rfl⟩;obtain⟨d1,ec⟩:∃d1,d1=dv+1:=⟨_,rfl⟩;rw[<-dU]at aB fD aX lW;rw[<-ec]at aY gY fD;have og:s1<=1000001:=by omega
       have VG:d1<=1000001:=by omega
       have a5:IntKind.i64.wrap ((i:Int)-(s1:Int))=(i:Int)-(s1:Int):=IntWalk.i64_in _ (by omega);rw[ay]at az;clear ay hp hz dU ec hsb uZ ao;by_cases hy:na=(i:Int)-(s1:Int)
       ·by_cases hy0:na<0
        ·have Xn:(na != (i:Int)-(s1:Int))=false:=by rw[hy];simp
         have Zl:decide (na<0)=true:=decide_eq_true hy0;have aQ:=J (aX.o (.inr hy0));clear lW hy aX fD;go_wp2_with fail;refine(az.o _).mono ?_
         rintro e w2 ⟨rfl,rfl⟩;go_wp2_with fail;refine(bI.o _).mono ?_
         rintro e w3 ⟨rfl,ae⟩;have bR:=J (HX.o.trans (aM.o.trans ae));have aC:=J (cO.o.ext ae);have q0:=aC.o.five;have ep:=J (cJ.o.ext (aM.o.trans ae));have eN:=J (bH.o.ext (aM.o.trans ae));have dO:w.heap.size<=w3.heap.size:=bR.o.size;clear ae;have ej:=mp.o w3 ep.o;have bA:=nO.o w3 eN.o;go_upto_region 15 with fail;go_region
         all_goals
          obtain⟨w8,dx⟩:∃w8,w8=w3.drew:=⟨_,rfl⟩;rw[<-dx];have dS:Hid (Ext w3 w8):=J (by rw[dx];exact(Ext.refl w3).drew);have iK:=J (bR.o.trans dS.o);have kN:=J (aC.o.ext dS.o);have q0:=kN.o.five;have lM:=J (ep.o.ext dS.o);have nl:=J (eN.o.ext dS.o);have oF:w.heap.size<=w8.heap.size:=iK.o.size;clear dx;go_wp2_with fail;go_ret2;exact⟨_,_,rfl,iK.o,.inl ⟨aQ.o,rfl,rfl⟩⟩
        ·have rl:0<=na:=by omega
         have Xn:(na != (i:Int)-(s1:Int))=false:=by rw[hy];simp
         have Zl:decide (na<0)=false:=decide_eq_false hy0;have mB:=lW hy rl;have jC:=J (fD.o hy rl);have HH4:Hid (∀W,AZ w.heap.size W (.slice (some ⟨g4,0,none⟩) i c4) i S->W.cell? ⟨g4,na.toNat,none⟩=some (.int .i64 ((S.getD na.toNat 0:Nat):Int))):=J (fun W h=>h.get _ mB);have HH5:Hid (∀W,AZ w.heap.size W (.slice (some ⟨g5,0,none⟩) i c5) i D->W.cell? ⟨g5,na.toNat,none⟩=some (.int .i64 ((D.getD na.toNat 0:Nat):Int))):=J (fun W h=>h.get _ mB);have hsb:=Ww.o na.toNat mB;have uZ:=si.o na.toNat mB;have hy2:na<(i:Int):=by omega
         generalize S.getD na.toNat 0=sa at *;generalize D.getD na.toNat 0=da at *;have hw4:IntKind.i64.wrap ((s1:Int)+(sa:Int))=((s1+sa:Nat):Int):=by rw[IntWalk.i64_in _ (by omega)];omega
         have cA:IntKind.i64.wrap ((da:Int)+1)=((da+1:Nat):Int):=by rw[IntWalk.i64_in _ (by omega)];omega
         have XO:max (d1:Int) ((da+1:Nat):Int)=((max d1 (da+1):Nat):Int):=by omega
         obtain⟨s2,cn⟩:∃s2,s2=s1+sa:=⟨_,rfl⟩;obtain⟨d2,bE⟩:∃d2,d2=da+1:=⟨_,rfl⟩;rw[<-cn]at hw4 jC;rw[<-bE]at cA XO jC;obtain⟨d3,oR⟩:∃d3,d3=max d1 d2:=⟨_,rfl⟩;rw[<-oR]at XO jC;clear lW hy aX fD mB cn bE oR hsb uZ;go_wp2_with fail;refine(az.o _).mono ?_
         rintro e w2 ⟨rfl,rfl⟩;go_wp2_with fail;refine(bI.o _).mono ?_
         rintro e w3 ⟨rfl,ae⟩;have bR:=J (HX.o.trans (aM.o.trans ae));have aC:=J (cO.o.ext ae);have q0:=aC.o.five;have ep:=J (cJ.o.ext (aM.o.trans ae));have eN:=J (bH.o.ext (aM.o.trans ae));have dO:w.heap.size<=w3.heap.size:=bR.o.size;clear ae;have ej:=mp.o w3 ep.o;have bA:=nO.o w3 eN.o;go_upto_region 15 with fail;go_region
         all_goals
          obtain⟨w8,dx⟩:∃w8,w8=w3.drew:=⟨_,rfl⟩;rw[<-dx];have dS:Hid (Ext w3 w8):=J (by rw[dx];exact(Ext.refl w3).drew);have iK:=J (bR.o.trans dS.o);have kN:=J (aC.o.ext dS.o);have q0:=kN.o.five;have lM:=J (ep.o.ext dS.o);have nl:=J (eN.o.ext dS.o);have oF:w.heap.size<=w8.heap.size:=iK.o.size;clear dx;have iu:=HH4.o w8 lM.o;have qq:=HH5.o w8 nl.o;go_upto_region 19 with fail;go_region
          all_goals
           obtain⟨w9,UI⟩:∃w9,w9=w8.drew:=⟨_,rfl⟩;rw[<-UI];have rf:Hid (Ext w8 w9):=J (by rw[UI];exact(Ext.refl w8).drew);have xW:=J (iK.o.trans rf.o);have Xa:=J (kN.o.ext rf.o);have q0:=Xa.o.five;have yN:=J (lM.o.ext rf.o);have W0:=J (nl.o.ext rf.o);have xd:w.heap.size<=w9.heap.size:=xW.o.size;clear UI;have cI:=J (jC.o);have aI:Hid (i+1<=maxLen):=J (by unfold maxLen;omega);have aH:Hid ((i+1)*8<=140737488355328):=J (by omega);have bp:Hid ((w9.alloc (.cells #[.int .i64 ((s2:Nat):Int)] 3)).ownsRow w.heap.size 3 1 (.slice (some ⟨g4,0,none⟩) i c4) i (S.map din)):=J (Ac yN.o (fun k _ hk=>Below.heap_alloc _ _ k hk));have a9:=J (AS w9 3 [.int .i64 ((s2:Nat):Int)]);have aO:Hid (w.heap.size<=(w9.alloc (.cells #[.int .i64 ((s2:Nat):Int)] 3)).heap.size):=J (by simp;omega);go_wp2_with (at_builtin;first|(refine wpList_append_lies _ rfl _ _ 41 rfl w.heap.size 3 i0 _ 1 8 Tryz.underlying41 hi aR hz1 aU rfl (by decide) (.slice (some ⟨g4,0,none⟩) i c4) i (S.map din) rfl bp.o ⟨w9.heap.size,0,none⟩ 1 1 [.int .i64 ((s2:Nat):Int)] rfl rfl a9.o (by simp[Value.oneCell']) (by decide) aI.o aH.o aO.o _ rfl ?_;intro g6 c6 w6 aq aw aG bu;have cS:=J (EN (u':= .slice (some ⟨g6,0,none⟩) (i+1) c6) yN.o W0.o (HI.o.apart) xd aw aG rfl rfl);have cj:Hid (AZ w.heap.size w6 (.slice (some ⟨g6,0,none⟩) (i+1) c6) (i+1) (S++[s2])):=J (by unfold AZ;rw[qaB];exact aq);have ma:w.heap.size<=w6.heap.size:=qaf xd cS.o.2.2.size;clear aq aw aG;have fc:Hid ((w6.alloc (.cells #[.int .i64 ((d3:Nat):Int)] 3)).ownsRow w.heap.size 3 1 (.slice (some ⟨g5,0,none⟩) i c5) i (D.map din)):=J (Ac cS.o.1 (fun k _ hk=>Below.heap_alloc _ _ k hk));have fY:=J (AS w6 3 [.int .i64 ((d3:Nat):Int)]);have pM:Hid (w.heap.size<=(w6.alloc (.cells #[.int .i64 ((d3:Nat):Int)] 3)).heap.size):=J (by simp;omega))|(refine wpList_append_lies _ rfl _ _ 41 rfl w.heap.size 3 i0 _ 1 8 Tryz.underlying41 hi aR hz1 aU rfl (by decide) (.slice (some ⟨g5,0,none⟩) i c5) i (D.map din) rfl fc.o ⟨w6.heap.size,0,none⟩ 1 1 [.int .i64 ((d3:Nat):Int)] rfl rfl fY.o (by simp[Value.oneCell']) (by decide) aI.o aH.o pM.o _ rfl ?_;intro g7 c7 w7 aK cF dH mL;have dB:=J (EN (u':= .slice (some ⟨g7,0,none⟩) (i+1) c7) cS.o.1 cj.o (cS.o.2.1.symm) ma cF dH rfl rfl);have jH:Hid (AZ w.heap.size w7 (.slice (some ⟨g7,0,none⟩) (i+1) c7) (i+1) (D++[d3])):=J (by unfold AZ;rw[qaB];exact aK);clear aK cF dH));go_wp2_with fail;go_roundw
           case rel=>exact⟨i+1,_,_,by omega,by go_num,HI.o.next aW.o cI.o dB.o.1 jH.o dB.o.2.1.symm (xW.o.more (cS.o.2.2.trans dB.o.2.2))⟩
           case measure=>simp[intOf];omega
       ·have Xn:(na != (i:Int)-(s1:Int))=true:=by rw[bne_iff_ne];exact hy
        have aQ:=J (aX.o (.inl hy));clear lW hy aX fD;go_wp2_with fail;refine(az.o _).mono ?_
        rintro e w2 ⟨rfl,rfl⟩;go_wp2_with fail;refine(bI.o _).mono ?_
        rintro e w3 ⟨rfl,ae⟩;have bR:=J (HX.o.trans (aM.o.trans ae));have aC:=J (cO.o.ext ae);have q0:=aC.o.five;have ep:=J (cJ.o.ext (aM.o.trans ae));have eN:=J (bH.o.ext (aM.o.trans ae));have dO:w.heap.size<=w3.heap.size:=bR.o.size;clear ae;have ej:=mp.o w3 ep.o;have bA:=nO.o w3 eN.o;go_upto_region 15 with fail;go_region
        all_goals
         obtain⟨w8,dx⟩:∃w8,w8=w3.drew:=⟨_,rfl⟩;rw[<-dx];have dS:Hid (Ext w3 w8):=J (by rw[dx];exact(Ext.refl w3).drew);have iK:=J (bR.o.trans dS.o);have kN:=J (aC.o.ext dS.o);have q0:=kN.o.five;have lM:=J (ep.o.ext dS.o);have nl:=J (eN.o.ext dS.o);have oF:w.heap.size<=w8.heap.size:=iK.o.size;clear dx;go_wp2_with fail;go_ret2;exact⟨_,_,rfl,iK.o,.inl ⟨aQ.o,rfl,rfl⟩⟩
     ·have vB:(nb != (i:Int)-1)=true:=by rw[bne_iff_ne];exact hz
      have aQ:=J (ao.o (Ii ay (.inl (by rw[pm.o];exact hz))));rw[ay]at az;clear ay hp ao hz;go_wp2_with fail;refine(az.o _).mono ?_
      rintro e w2 ⟨rfl,rfl⟩;go_wp2_with fail;refine(bI.o _).mono ?_
      rintro e w3 ⟨rfl,ae⟩;have bR:=J (HX.o.trans (aM.o.trans ae));have aC:=J (cO.o.ext ae);have q0:=aC.o.five;have ep:=J (cJ.o.ext (aM.o.trans ae));have eN:=J (bH.o.ext (aM.o.trans ae));have dO:w.heap.size<=w3.heap.size:=bR.o.size;clear ae;go_wp2_with fail;go_ret2;exact⟨_,_,rfl,bR.o,.inl ⟨aQ.o,rfl,rfl⟩⟩
  ·obtain rfl:i=n:=by omega
   have pW:=HI.o.go;rw[qaS (by rw[<-HN.o];exact qad _)]at pW;have aS:Hid (Ez l=if l.length=0\/S.getD (l.length-1) 0≠l.length then none else some (S,D)):=J (by unfold Ez;rw[pW];rfl);rw[<-HN.o]at aS;have HX:=J aL.ext;have cJ:=J aL.r4;have bH:=J aL.r5;have fV:=J aL.ok.size;clear aL pW;by_cases hz:i=0
   ·subst hz;have aQ:Hid (Ez l=none):=J (by rw[aS.o,if_pos (.inl rfl)]);go_wp2_with fail;go_ret2;exact⟨_,_,rfl,HX.o,.inl ⟨aQ.o,rfl,rfl⟩⟩
   ·obtain⟨g4,d4,gg,_,_⟩:=cJ.o.form (by omega);injection gg with gg _ he5
    subst gg;clear he5;obtain⟨y,hy⟩:∃y:Int,y=(i:Int)-1:=⟨_,rfl⟩;have aa:=cJ.o.get (i-1) (by omega);have hj:y.toNat=i-1:=by omega
    have pP:((i:Int) == 0)=false:=by rw[beq_eq_false_iff_ne];omega
    have lS:IntKind.i64.wrap ((i:Int)-1)=y:=by rw[IntWalk.i64_in _ (by omega),hy]
    have pV:(0:Int)<=y:=by omega
    have jr:y<(i:Int):=by omega
    rw[<-hj]at aa aS;have dh:=J (And.intro cJ.o.len bH.o.len);have hsv:=fV.o (i-1) (by have:=cJ.o.len;omega);rw[<-hj]at hsv;generalize S.getD y.toNat 0=sv at *;clear hj fV hy hsv;by_cases he:sv=i
    ·have bV:Hid (Ez l=some (S,D)):=J (by rw[aS.o,if_neg (by omega)]);subst he;have hne:((sv:Int) != (sv:Int))=false:=by simp
     clear aS hz;go_wp2_with fail;go_ret2;exact⟨_,_,rfl,HX.o,.inr ⟨S,D,bV.o,by rw[<-HN.o];exact dh.o.1,by rw[<-HN.o];exact dh.o.2,cJ.o.arr,bH.o.arr⟩⟩
    ·have aQ:Hid (Ez l=none):=J (by rw[aS.o,if_pos (.inr he)]);have hne:((sv:Int) != (i:Int))=true:=by rw[bne_iff_ne];omega
     clear aS hz he;go_wp2_with fail;go_ret2;exact⟨_,_,rfl,HX.o,.inl ⟨aQ.o,rfl,rfl⟩⟩
theorem F2(w:World)(v:Value)(l:List Nd)(hr:RNd w v l)(hl:l.length<=1000000)(dy:∀x∈l,x.text.length<=1073741824):Calls Tryz.prog 67 #[v] w fun e w'=>e= .returned (.bool (FA l))/\Ext w w':=by
 have HS:=J (PS w v l hr hl dy);have HV:Hid (FA l=(decide (1<=l.length/\l.length<=200) && match Ez l with|none=>false|some (_,D)=>decide (D.getD (l.length-1) 0<=40))):=J rfl;obtain⟨A,c,rfl,_⟩:=hr;generalize FA l=r at *;clear dy;obtain⟨n,hn⟩:∃n,n=l.length:=⟨_,rfl⟩;have HN:=J hn;rw[<-hn]at hl HV HS ⊢;clear hn;by_cases h1:n<1
 ·obtain rfl:n=0:=by omega
  clear HS h1;go_enter Tryz.func67,Tryz.ntmps67;go_wp2_with fail;go_ret;exact⟨by rw[HV.o];rfl,Ext.refl w⟩
 ·have Ys:decide ((n:Int)<1)=false:=decide_eq_false (by omega);have h1c:¬((n:Int)<1):=by omega
  by_cases h2:200<n
  ·have h2b:decide ((n:Int)>200)=true:=decide_eq_true (by omega);have Wc:(200:Int)<(n:Int):=by omega
   have hd:decide (1<=n/\n<=200)=false:=decide_eq_false (by omega);rw[hd]at HV;clear HS h1 h2 hd;go_enter Tryz.func67,Tryz.ntmps67;go_wp2_with fail;go_ret;exact⟨by rw[HV.o];rfl,Ext.refl w⟩
  ·have h2b:decide ((n:Int)>200)=false:=decide_eq_false (by omega);have Wc:¬(200:Int)<(n:Int):=by omega
   have hd:decide (1<=n/\n<=200)=true:=decide_eq_true (by omega);rw[hd,qaQ]at HV;have h1n:1<=n:=by omega
   clear h1 h2 hd;go_enter Tryz.func67,Tryz.ntmps67;go_wp2_with fail;refine HS.o.mono ?_
   rintro e w1 ⟨v1,v2,rfl,hx,hp⟩;have HX:=J hx;clear hx;rcases hp with ⟨hs,rfl,rfl⟩|⟨S,D,hs,pT,jT,h4,h5⟩
   ·rw[hs]at HV;clear hs;go_wp2_with fail;go_ret;exact⟨by rw[HV.o];rfl,HX.o⟩
   ·rw[hs]at HV;have fL:Hid (r=decide (D.getD (n-1) 0<=40)):=J HV.o;clear HV;obtain⟨A4,c4,rfl,_⟩:=h4.open;obtain⟨A5,c5,rfl,h6⟩:=h5.open;rw[<-HN.o]at pT jT;rw[jT]at h6;obtain⟨g5,o5,rfl,_,h7⟩:=h6 (by omega);have h8:=h7 (n-1) (by omega);obtain⟨y,hy⟩:∃y:Int,y=(n:Int)-1:=⟨_,rfl⟩;have hj:y.toNat=n-1:=by omega
    rw[<-hj]at h8 fL;have hw:IntKind.i64.wrap ((n:Int)-1)=y:=by rw[IntWalk.i64_in _ (by omega),hy]
    have pV:(0:Int)<=y:=by omega
    have jr:y<(n:Int):=by omega
    generalize D.getD y.toNat 0=dv at *;have we:(0:Int)<(n:Int):=by omega
    have hdv:decide (dv<=40)=decide ((dv:Int)<=40):=by rw[decide_eq_decide];omega
    have yQ:=J hdv;rw[pT,jT];clear hs h4 h5 h6 h7 hj hy hdv pT jT;go_wp2_with fail;go_ret;exact⟨by rw[fL.o,yQ.o];rfl,HX.o⟩
theorem Gc(e:Ex)(hg:e.Good):∀off,∀x∈Ag off e,x.text.length<=1073741824:=by
 induction e with
 |leaf k t=>
  intro off x hx;rw[Ag,qav]at hx;subst hx;rcases hg with ⟨_,_,h⟩|⟨_,h⟩|⟨_,rfl⟩
  ·simp only;omega
  ·have:=EM (qbu.1 h).1;simp only;omega
  ·simp
 |un k n x ih=>
  intro off y hy;rw[Ag,qax,qav]at hy;rcases hy with hy|rfl
  ·exact ih hg.2.2.2.2 off y hy
  ·simp
 |bin k x z ihx ihy=>
  intro off y hy;rw[Ag,qax,qax,qav]at hy;rcases hy with hy|hy|rfl
  ·exact ihx hg.2.1 _ y hy
  ·exact ihy hg.2.2 _ y hy
  ·simp
theorem Fx.whole(e:Ex):Fx (Ag 0 e) (e.size-1) e:=⟨[],[],by simp,by have:=e.size_pos;simp;omega⟩
theorem G5(w:World)(v:Value)(e:Ex)(hr:RNd w v (Ag 0 e))(hg:e.Good)(hs:e.size<=200)(hd:e.depth<=40):Calls Tryz.prog 56 #[v] w fun r w'=>r= .returned (str (Am AF e))/\Ext w w':=by
 have ak:=Ak e 0;have HV:=J (F2 w v (Ag 0 e) hr (by omega) (Gc e hg 0));rw[Ew e hg,decide_eq_true (And.intro hs hd)]at HV;have aQ:=J (fun W h=>Si (Ag 0 e) (by omega) e hg (by omega) W v (e.size-1) ((e.size-1:Nat):Int) h (Fx.whole e) rfl);have HR:=J hr;obtain⟨A,c,rfl,_⟩:=hr;have hz:=e.size_pos;have hj:((e.size-1:Nat):Int)=(e.size:Int)-1:=by omega
 have hw:IntKind.i64.wrap ((e.size:Int)-1)=(e.size:Int)-1:=IntWalk.i64_in _ (by omega);rw[hj]at aQ;rw[ak]at HV aQ HR ⊢;generalize e.size=n at *;generalize Am AF e=s at *;clear ak hg hs hd hz hj;go_enter Tryz.func56,Tryz.ntmps56;go_wp2_with fail;refine HV.o.mono ?_
 rintro r w1 ⟨rfl,ar⟩;have ah:=J ar;clear ar;go_wp2_with fail;refine(aQ.o _ (HR.o.ext ah.o)).mono ?_
 rintro r w2 ⟨rfl,al⟩;have am:=J (ah.o.trans al);clear al;go_wp2_with fail;go_ret;exact⟨rfl,am.o⟩
end Big
end Go.Proofs.YtkoaogkknnelaaaGreatDoor
