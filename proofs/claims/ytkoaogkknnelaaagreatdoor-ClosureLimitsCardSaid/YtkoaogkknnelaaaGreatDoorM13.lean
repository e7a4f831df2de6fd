import Derived.Test.YtkoaogkknnelaaaGreatDoorM12
import Derived.Test.YtkoaogkknnelaaaGreatDoorShelf
set_option linter.unusedVariables false
set_option linter.unusedSimpArgs false
set_option maxHeartbeats 1000000
set_option maxRecDepth 100000
namespace Go.Proofs.YtkoaogkknnelaaaGreatDoor
namespace Big
open Lib renaming hid → J
open Go.RowKit
def Nj(w0 wr:World)(N M k:Nat)(zs:List Nat):Prop:=
 zs.length=k/\Ok zs/\val zs=N % 4294967296 ^ k/\Blk wr w0.heap.size 183 (cells (zs++List.replicate (M-k) 0))/\Ext w0 wr
theorem Nj.step{w0 wr:World}{xs zs:List Nat}{d s M N k y:Nat}(h:Nj w0 wr N M k zs)(hk:k<M)(hs:s<=31)(av:Ok xs)(hN:N=val (xs.drop d) / 2 ^ s)(hy:y=xs.getD (k+d) 0+4294967296*xs.getD (k+d+1) 0):
  Nj w0 (wr.setCell ⟨w0.heap.size,k,none⟩ (d32 (y / 2 ^ s % 4294967296))) N M (k+1) (zs++[y / 2 ^ s % 4294967296]):=by
 obtain⟨hl,ff,hv,hb,he⟩:=h;have h0:=Q6 (av.drop d) hN hs hl hv;rw[Gf,Gf,show d+k=k+d by omega,show d+(k+1)=k+d+1 by omega,<-hy]at h0;refine⟨by simp[hl],ff.snoc (Nat.mod_lt _ (by omega)),h0,?_,he.setCell (Nat.le_refl _) _⟩;have h1:=hb.set_ k (d32 (y / 2 ^ s % 4294967296));rw[CI,show M-k=(M-(k+1))+1 by omega]at h1;have h2:=Hu zs (M-(k+1)) (y / 2 ^ s % 4294967296);rw[hl]at h2
 rwa [h2]at h1
theorem Sx(w:World)(v:Value)(xs:List Nat)(n:Nat)(h:Arr w v xs)(hl:xs.length<=268435456)(hn:n<=1048576):
  Calls Tryz.prog 295 #[v,.int .i64 (n:Int)] w fun e w'=>∃v',e= .returned v'/\Own w.heap.size w' v' (Af (val xs / 2 ^ n))/\Ext w w':=by
 have HA:=J h;have HP:=J (Js w n hn);obtain⟨av,A,cap,rfl,dK,gP,ac⟩:=h.open;have HC:=J ac;have HM:=J gP;obtain⟨d,s,hd,hs,hnd⟩:∃d s,d<=32768/\s<=31/\n=32*d+s:=⟨n / 32,n % 32,by omega,by omega,by omega⟩;have aQ:=J hnd;have hq:(n:Int) / 32=(d:Int):=by omega
 have hr:(n:Int) % 32=(s:Int):=by omega
 clear h ac gP hnd;rcases Nat.lt_or_ge d xs.length with h0|h0
 ·obtain⟨M,qM⟩:∃M,xs.length=d+M:=⟨xs.length-d,by omega⟩;have dZ:=Es M (by omega);have fE:(xs.length:Int)-(d:Int)=(M:Int):=by omega
  have YB:¬(xs.length:Int)<=(d:Int):=by omega
  obtain⟨N,hN⟩:∃N,N=val (xs.drop d) / 2 ^ s:=⟨_,rfl⟩;have HN:=J hN;clear hN;have sR:=J (Jr s hs);have dN:=J qM;have hM0:0<M:=by omega
  clear qM;go_enter Tryz.func295,Tryz.ntmps295;go_wp2_with fail;refine HP.o.mono ?_
  rintro e w' ⟨rfl,rfl⟩;go_wp2_with fail;clear dZ fE;go_loopw [28] (fun i wr=>∃(k:Nat) (zs:List Nat),k<=M/\i= .int .i64 k/\Nj w wr N M k zs) (fun i _=>M-(intOf i).toNat)
  case atStart=>exact⟨0,[],Nat.zero_le _,rfl,rfl,Cx,by simp[val,Nat.mod_one],Blk.new _ _ _,(Ext.refl w).alloc _⟩
  case round=>
   obtain⟨k,zs,hk,rfl,hat⟩:=hrel;by_cases hlt:k<M
   ·have qM:=dN.o;obtain⟨b,o,rfl,hb,ac⟩:=HC.o (by omega);have cB:=J (fun y h=>Nj.step (y:=y) hat hlt hs av HN.o h);obtain⟨gy,ff,hv,b9,an⟩:=hat;have hx:=(an.cell hb).trans (ac (k+d) (by omega));have ai:=b9.cell k;have hfz:=b9.frozen k;rw[CK _ _ (by simp;omega)]at ai;have fo:=av.get (k+d);have su:(2:Int) ^ s=((2 ^ s:Nat):Int):=by simp
    have Zd:0<2 ^ s:=Nat.pow_pos (by omega);obtain⟨P,hP⟩:∃P,2 ^ s=P:=⟨_,rfl⟩;rw[hP]at su cB Zd;clear hP;generalize (zs++List.replicate (M-k) 0).getD k 0=z at ai;clear b9 hv ff gy;have HX:=J an;by_cases h2:k+d+1<xs.length
    ·have hy:=(an.cell hb).trans (ac (k+d+1) h2);have pq:=av.get (k+d+1);have aF:=J (cB.o _ rfl);clear ac an cB qM;obtain⟨x,hxe⟩:∃x,xs.getD (k+d) 0=x:=⟨_,rfl⟩;obtain⟨y,fm⟩:∃y,xs.getD (k+d+1) 0=y:=⟨_,rfl⟩;rw[hxe]at hx fo aF;rw[fm]at hy pq aF;clear hxe fm;have pc:bits .or .u64 (x:Int) ((y:Int)*4294967296)=((x+4294967296*y:Nat):Int):=by
      rw[show (y:Int)*4294967296=((y*4294967296:Nat):Int) by omega,bits_or_u64_nat _ _ (by omega) (by omega)];have h3:=Nat.shiftLeft_add_eq_or_of_lt (i:=32) (b:=x) (by omega) y;rw[Nat.shiftLeft_eq]at h3;rw[Nat.or_comm,show y*4294967296=y*2 ^ 32 from rfl,<-h3];omega
     have qy:x+4294967296*y<18446744073709551616:=by omega
     obtain⟨t,ht⟩:∃t,x+4294967296*y=t:=⟨_,rfl⟩;rw[ht]at pc qy aF;clear ht;simp only[d32]at hx ai hy;go_wp2_with fail;go_roundw
     case rel=>exact⟨k+1,_,by omega,by go_num,aF.o⟩
     case measure=>simp[intOf];omega
    ·have h0:xs.getD (k+d+1) 0=0:=LL xs _ (by omega);have aF:=J (cB.o (xs.getD (k+d) 0) (by rw[h0];omega));clear ac an cB h0;have h2':¬(k:Int)+(d:Int)+1<(xs.length:Int):=by omega
     have h3:(k:Int)+(d:Int)<(xs.length:Int):=by omega
     clear h2 qM;obtain⟨x,hxe⟩:∃x,xs.getD (k+d) 0=x:=⟨_,rfl⟩;rw[hxe]at hx fo aF;clear hxe;simp only[d32]at hx ai;go_wp2_with fail;go_roundw
     case rel=>exact⟨k+1,_,by omega,by go_num,aF.o⟩
     case measure=>simp[intOf];omega
   ·obtain rfl:k=M:=by omega
    obtain⟨gy,ff,hv,b9,an⟩:=hat;rw[Nat.sub_self,List.replicate_zero,List.append_nil]at b9;have qM:=dN.o;have bQ:Own w.heap.size wr (.slice (some ⟨w.heap.size,0,none⟩) k k) zs:=by
     have h3:=Own.block (B:=w.heap.size) ff b9 (Nat.le_refl _) (by rw[gy];omega)
     rwa [gy]at h3
    have hval:val zs=val xs / 2 ^ n:=by
     rw[aQ.o,<-Mc av,<-HN.o];refine Sw (av.drop d) HN.o ?_
     rw[hv,List.length_drop,qM,Nat.add_sub_cancel_left]
    have eM:=J (Er _ _ _ bQ.arr);have cQ:=size_le zs;obtain⟨A1,c1,hv1,HO⟩:=bQ.take (size zs) cQ;rw[DD bQ.ok,hval]at HO;rw[gy]at cQ;injection hv1 with hv1 hv3 hv2
    clear hv3;subst hv1;subst hv2;have HO:=J HO;generalize size zs=sz at *;clear hval bQ b9 hv gy qM;go_wp2_with fail;refine eM.o.mono ?_
    rintro e w' ⟨rfl,rfl⟩;go_wp2_with fail;go_ret;exact⟨_,rfl,HO.o,an⟩
 ·have HZ:val xs / 2 ^ n=0:=by rw[aQ.o];exact Q7 av h0
  rw[HZ];clear HZ;have dU:(xs.length:Int)<=(d:Int):=by omega
  go_enter Tryz.func295,Tryz.ntmps295;go_wp2_with fail;refine HP.o.mono ?_
  rintro e w' ⟨rfl,rfl⟩;go_wp2_with fail;go_ret;exact⟨_,rfl,Own.none_ _ _,Ext.refl _⟩
theorem RH(w:World)(x:Nat)(hx:x<4294967296):Calls Tryz.prog 292 #[.int .u32 (x:Int)] w fun e w'=>∃s:Nat,s<=32/\e= .returned (.int .i64 (s:Int))/\w=w':=by
 have h:=Tryz.bits_LeadingZeros32 (x:Int) w (by omega) (by omega);refine h.mono ?_
 rintro e w' ⟨rfl,rfl⟩;have h2:=Any.bitLen_le32 (x:Int) (by omega) (by omega);refine⟨32-Lib.bitLen (x:Int).toNat,by omega,?_,rfl⟩
 congr 2
 omega
theorem MP{n:Nat}(h:n≠0):4294967296 ^ ((Af n).length-1)<=n:=by
 induction n using Nat.strongRecOn with
 |_ n ih=>
  rw[CJ n h,List.length_cons,Nat.add_sub_cancel];by_cases h0:n / 4294967296=0
  ·rw[h0,Da];simp;omega
  ·have h1:=ih (n / 4294967296) (by omega) h0;obtain⟨m,hm⟩:∃m,(Af (n / 4294967296)).length=m+1:=by
    rw[CJ _ h0,List.length_cons];exact⟨_,rfl⟩
   rw[hm]at h1 ⊢;rw[Nat.add_sub_cancel]at h1;rw[Nat.pow_succ];have:=Nat.mul_le_mul_right 4294967296 h1;omega
theorem Qd{n:Nat}(h:n≠0):1<=(Af n).getD ((Af n).length-1) 0:=by
 rcases Nat.eq_zero_or_pos ((Af n).getD ((Af n).length-1) 0) with h0|h0
 ·exfalso
  have hl:0<(Af n).length:=by
   rw[CJ n h,List.length_cons];omega
  have h1:=Ca (Af n) ((Af n).length-1);rw[Nat.sub_add_cancel hl,List.take_of_length_le (Nat.le_refl _),Ah,h0,Nat.mul_zero,Nat.add_zero]at h1;have h2:=BT (Eu n) ((Af n).length-1);have h3:=MP h;omega
 ·exact h0
theorem KW(X:Nat){s:Nat}(hs:s<=32):(Af (X*2 ^ s)).length<=(Af X).length+1:=by
 refine Bg ?_
 have h1:=DC (Eu X);rw[Ah]at h1;have h2:2 ^ s<=4294967296:=Nat.le_trans (Nat.pow_le_pow_right (by omega) hs) (by decide);rw[Nat.pow_succ];exact Nat.lt_of_lt_of_le (Nat.mul_lt_mul_of_pos_right h1 (Nat.pow_pos (by omega))) (Nat.mul_le_mul_left _ h2)
def I2(A V:Nat)(w:World)(e:Ending)(w':World):Prop:=
 ∃v' u',e= .returned (.tuple #[v',u',.bool true])/\Own w.heap.size w' v' (Af (A / V))/\Own w.heap.size w' u' (Af (A % V))/\Ext w w'
theorem NR(w:World)(v u:Value)(xs ys:List Nat)(h:Arr w v xs)(h':Arr w u ys)(hn:xs.length<=134217728)(ck:ys.length<=134217728)(hlt:val xs<val ys):
  Calls Tryz.prog 275 #[v,u] w (I2 (val xs) (val ys) w):=by
 have HA:=J (BU w v xs h (by omega));have HB:=J (fun W hx=>BU W u ys (h'.ext hx) (by omega));have eZ:=J (fun W v u a b=>LN W v u (Af (val xs)) (Af (val ys)) a b (Nat.le_trans (AH h.ok) (by omega)) (Nat.le_trans (AH h'.ok) (by omega)));rw[Ah,Ah,Gh hlt]at eZ;have nO:Af (val ys)≠[]:=by rw[Ne,Ef];omega
 have hl1:0<(Af (val ys)).length:=List.length_pos_iff.2 nO;have HQ:=J (Nat.div_eq_of_lt hlt);have HR:=J (Nat.mod_eq_of_lt hlt);clear h h' hlt nO;go_enter Tryz.func275,Tryz.ntmps275;go_wp2_with fail;refine HA.o.mono ?_
 rintro e w1 ⟨v1,rfl,cO,am⟩;have ah:=J am;have fC:=J cO;obtain⟨n1,A1,c1,rfl⟩:=cO.shape;clear cO am;go_wp2_with fail;refine(HB.o _ ah.o).mono ?_
 rintro e w2 ⟨v2,rfl,bN,au⟩;have el:=J bN;obtain⟨n2,A2,c2,rfl⟩:=bN.shape;have hl:=bN.len;rw[<-hl]at hl1;have jt:((n2:Int) == 0)=false:=by rw[beq_eq_false_iff_ne];omega
 have aq:=J (ah.o.trans au);have kC:=J au;clear bN au hl;go_wp2_with fail;refine(eZ.o _ _ _ (fC.o.arr.ext kC.o) el.o.arr).mono ?_
 rintro e w3 ⟨rfl,ae⟩;have aj:=J (aq.o.trans ae);have eE:=J ((fC.o.ext kC.o).ext ae);clear ae;go_wp2_with fail;go_ret3;exact⟨_,_,rfl,by rw[HQ.o];exact Own.none_ _ _,by rw[HR.o];exact eE.o,aj.o⟩
theorem Mm(w:World)(v u:Value)(xs ys:List Nat)(h:Arr w v xs)(h':Arr w u ys)(hn:xs.length<=134217728)(ck:ys.length<=134217728)(dU:val ys<=val xs)(h1:(Af (val ys)).length=1):
  Calls Tryz.prog 275 #[v,u] w (I2 (val xs) (val ys) w):=by
 have HA:=J (BU w v xs h (by omega));have HB:=J (fun W hx=>BU W u ys (h'.ext hx) (by omega));have eZ:=J (fun W v u a b=>LN W v u (Af (val xs)) (Af (val ys)) a b (Nat.le_trans (AH h.ok) (by omega)) (Nat.le_trans (AH h'.ok) (by omega)));have kA:¬DY (val xs) (val ys)<0:=by rw[JZ];omega
 rw[Ah,Ah]at eZ;obtain⟨d,hd⟩:∃d,Af (val ys)=[d]:=List.length_eq_one_iff.1 h1;have hdv:val ys=d:=by rw[<-Ah (val ys),hd];simp[val]
 have ky:d<4294967296:=Eu (val ys) d (by rw[hd];simp);have o9:0<d:=by
  rcases Nat.eq_zero_or_pos d with h0|h0
  ·rw[hdv,h0,Da]at h1;simp at h1
  ·exact h0
 have jw:=J (fun W v a=>NQ W v (Af (val xs)) d a (Nat.le_trans (AH h.ok) (by omega)) o9 ky);rw[Ah]at jw;have ne:=J (fun W=>Ru W (val xs % d) (by have:=Nat.mod_lt (val xs) o9;omega));have qy:=Nat.mod_lt (val xs) o9;rw[hd]at HB;rw[hdv];rw[hdv]at kA eZ;rw[show Af d=[d] by rw[hdv]at hd;exact hd]at eZ;clear h h' dU h1 hd hdv;generalize DY (val xs) d=cc at *;go_enter Tryz.func275,Tryz.ntmps275;go_wp2_with fail;refine HA.o.mono ?_
 rintro e w1 ⟨v1,rfl,cO,am⟩;have ah:=J am;have fC:=J cO;obtain⟨n1,A1,c1,rfl⟩:=cO.shape;clear cO am;go_wp2_with fail;refine(HB.o _ ah.o).mono ?_
 rintro e w2 ⟨v2,rfl,bN,au⟩;have el:=J bN;obtain⟨n2,A2,c2,rfl⟩:=bN.shape;have hl:=bN.len;simp only[List.length_singleton]at hl;subst hl;have aq:=J (ah.o.trans au);have kC:=J au;clear bN au;go_wp2_with fail;refine(eZ.o _ _ _ (fC.o.arr.ext kC.o) el.o.arr).mono ?_
 rintro e w3 ⟨rfl,ae⟩;have aj:=J (aq.o.trans ae);have eE:=J ((fC.o.ext kC.o).ext ae);obtain⟨fg,Xq,WP,he,hk2,dG,ac⟩:=(el.o.ext ae).arr.open;injection he with e1 e3 e2
 subst e1 e2;obtain⟨b2,o2,rfl,d9,ac⟩:=ac (by simp);have hx:=ac 0 (by simp);simp only[Nat.add_zero,List.getD_cons_zero,d32]at hx;clear ae ac fg hk2 dG e3;go_wp2_with fail;refine(jw.o _ _ eE.o.arr).mono ?_
 rintro e w4 ⟨v4,rfl,eR,aR⟩;have aE:=J (aj.o.trans aR);have jm:=J (eR.mono aj.o.size);obtain⟨n4,A4,c4,rfl⟩:=eR.shape;clear eR aR;obtain⟨r,hr⟩:∃r,val xs % d=r:=⟨_,rfl⟩;have i3:=J hr;rw[hr]at ne qy;rw[hr];clear hr;go_wp2_with fail;refine(ne.o _).mono ?_
 rintro e w5 ⟨v5,rfl,cY,hx5⟩;have bg:=J (aE.o.trans hx5);have gT:=J (cY.mono aE.o.size);have U4:=J (jm.o.ext hx5);obtain⟨n5,A5,c5,rfl⟩:=cY.shape;clear cY hx5;go_wp2_with fail;go_ret3;exact⟨_,_,rfl,U4.o,by rw[i3.o];exact gT.o,bg.o⟩
theorem Own.blockR{B:Nat}{w:World}{v:Value}{xs:List Nat}(h:Own B w v xs)(hp:0<xs.length):∃g c RX,v= .slice (some ⟨g,0,none⟩) xs.length c/\B<=g/\xs.length<=c/\c<=maxLen/\Blk w g 183 (cells xs++RX)/\xs.length+RX.size=c:=by
 obtain⟨av,A,c,rfl,h2,h3,h4⟩:=h;rw[List.length_map]at h2 h4;rcases h4 with ⟨h5,_⟩|⟨g,cur,rfl,hg,aw,hs,ht⟩
 ·rw[List.map_eq_nil_iff]at h5;subst h5;simp at hp
 ·refine⟨g,c,(cur.toList.drop xs.length).toArray,by rw[List.length_map],hg,h2,h3,?_,by simp;omega⟩;have e:cells xs++(cur.toList.drop xs.length).toArray=cur:=by
   apply Array.ext';unfold cells;rw[Array.toList_append];show xs.map d32++cur.toList.drop xs.length=cur.toList;rw[<-ht,List.take_append_drop]
  rw[e];exact aw
theorem R3{w:World}{g c:Nat}{us:List Nat}{RX:Array Value}(h:Blk w g 183 (cells us++RX))(av:Ok us)(hc:us.length<=c)(hm:c<=maxLen):Arr w (.slice (some ⟨g,0,none⟩) us.length c) us:=
 Arr.mk av hc hm fun _=>⟨g,0,rfl,h.lt,fun j hj=>by rw[h.cell,Nat.zero_add,DN _ _ _ hj]⟩
theorem Arr.put{w:World}{v:Value}{xs:List Nat}{g:Nat}(h:Arr w v xs)(hne:∀b o n c,v= .slice (some ⟨b,o,none⟩) n c->b≠g)(i:Nat)(u:Value):Arr (w.setCell ⟨g,i,none⟩ u) v xs:=
 h.kept (E3 ((Dr.refl w).grown (some g)) i u) hne
theorem Arr.low{w:World}{v:Value}{xs:List Nat}{g:Nat}(h:Arr w v xs)(hp:0<xs.length)(hg:w.heap.size<=g):∀b o n c,v= .slice (some ⟨b,o,none⟩) n c->b≠g:=by
 obtain⟨_,A,c,rfl,_,_,ac⟩:=h.open;obtain⟨b,o,rfl,hb,_⟩:=ac hp;intro b' o' n' c' he;injection he with h1 _ _
 injection h1 with h1
 injection h1 with h1 _ _
 omega
def S7(w wr:World)(u0 us qs:List Nat)(V gu gq K:Nat)(RX:Array Value)(v:Value):Prop:=
 D5 u0 us qs V K/\Ok qs/\Blk wr gq 183 (cells (List.replicate K 0++qs))/\Blk wr gu 183 (cells us++RX)/\Arr wr v (Af V)/\Ext w wr
theorem Lw(w:World)(v u:Value)(xs ys:List Nat)(h:Arr w v xs)(h':Arr w u ys)(hn:xs.length<=134217728)(ck:ys.length<=134217728)(dU:val ys<=val xs)(h2:2<=(Af (val ys)).length):
  Calls Tryz.prog 275 #[v,u] w (I2 (val xs) (val ys) w):=by
 have HA:=J (BU w v xs h (by omega));have HB:=J (fun W hx=>BU W u ys (h'.ext hx) (by omega));have zw:(Af (val xs)).length<=134217728:=Nat.le_trans (AH h.ok) hn;have jt:(Af (val ys)).length<=134217728:=Nat.le_trans (AH h'.ok) ck;have eZ:=J (fun W v u a b=>LN W v u (Af (val xs)) (Af (val ys)) a b (by omega) (by omega));have sM:=J (fun W v s a h=>OQ W v (Af (val xs)) s a (by omega) h);have sL:=J (fun W v s a h=>OQ W v (Af (val ys)) s a (by omega) h);have kA:¬DY (val xs) (val ys)<0:=by rw[JZ];omega
 rw[Ah,Ah]at eZ;rw[Ah]at sM sL;have VM:val ys≠0:=fun e=>by rw[e,Da]at h2;simp at h2
 obtain⟨X,hX⟩:∃X,val xs=X:=⟨_,rfl⟩;obtain⟨Y,hY⟩:∃Y,val ys=Y:=⟨_,rfl⟩;rw[hX]at HA eZ kA sM dU zw ⊢;rw[hY]at HB eZ kA sL dU h2 VM jt ⊢;clear h h' hX hY hn ck;generalize DY X Y=cc at *;go_enter Tryz.func275,Tryz.ntmps275;go_wp2_with fail;refine HA.o.mono ?_
 rintro e w1 ⟨v1,rfl,cO,am⟩;have ah:=J am;have fC:=J cO;obtain⟨n1,A1,c1,rfl⟩:=cO.shape;clear cO am;go_wp2_with fail;refine(HB.o _ ah.o).mono ?_
 rintro e w2 ⟨v2,rfl,bN,au⟩;have el:=J bN;obtain⟨m,hm⟩:∃m,(Af Y).length=m+2:=⟨(Af Y).length-2,by omega⟩;obtain⟨n2,A2,c2,rfl⟩:=bN.shape;have hl:=bN.len;rw[hm]at hl;subst hl;have aq:=J (ah.o.trans au);have kC:=J au;clear bN au;go_wp2_with fail;refine(eZ.o _ _ _ (fC.o.arr.ext kC.o) el.o.arr).mono ?_
 rintro e w3 ⟨rfl,ae⟩;have aj:=J (aq.o.trans ae);have HA3:=J ((fC.o.ext kC.o).ext ae).arr;have aD:=J (el.o.ext ae).arr;obtain⟨_,Xq,WP,he,dg,hmm,ac⟩:=(el.o.ext ae).arr.open;rw[hm]at he ac dg;injection he with e1 e3 e2
 subst e1 e2;clear e3;obtain⟨b2,o2,rfl,d9,ac⟩:=ac (by omega);have hx:=ac (m+1) (by omega);have fo:=(Eu Y).get (m+1);clear ae ac kC;generalize (Af Y).getD (m+1) 0=y at *;simp only[d32]at hx;have Z6:=J (fun W=>RH W y fo);have V6:(((m:Int)+2) == 1)=false:=by rw[beq_eq_false_iff_ne];omega
 have V7:(((m:Int)+2) == 0)=false:=by rw[beq_eq_false_iff_ne];omega
 go_wp2_with fail;refine(Z6.o _).mono ?_
 rintro e w4 ⟨s,hs,rfl,rfl⟩;go_wp2_with fail;refine(sL.o _ _ s aD.o (by omega)).mono ?_
 rintro e w4 ⟨v4,rfl,eR,aR⟩;have aE:=J (aj.o.trans aR);have i7:=J (HA3.o.ext aR);have jm:=J eR;obtain⟨n4,A4,c4,rfl⟩:=eR.shape;have yb:=J eR.len;clear eR aR;go_wp2_with fail;refine(sM.o _ _ s i7.o (by omega)).mono ?_
 rintro e w5 ⟨v5,rfl,cY,hx5⟩;have bg:=J (aE.o.trans hx5);have UK:=J hx5;have gT:=J cY;obtain⟨n5,A5,c5,rfl⟩:=cY.shape;have X4:=hx5.size;clear cY hx5;have xU:=aE.o.size;have zy:=KW X hs;have fO:Hid ((Af (X*2 ^ s)).length+[0].length<=2147483648):=J (by simp;omega);clear zy;go_wp2_with (at_builtin;go_must (refine Bf rfl _ _ rfl rfl (gT.o.ext ((Ext.refl _).alloc _)) rfl (Arr.fresh1' _ _ 0 rfl (by omega)) fO.o (by simp;omega) ?_;intro v6 w6 mf bM kB));have uI:=kB.size;simp only[World.size_alloc]at uI;have aO:=J ((bg.o.alloc (.cells #[.int .u32 0] 183)).more (kB.mono xU));have kj:Hid (Arr w6 (.slice A4 n4 c4) (Af (Y*2 ^ s))):=J (jm.o.arr.ext ((UK.o.alloc _).more kB));have vX:Y*2 ^ s≠0:=Nat.mul_ne_zero VM (Nat.ne_of_gt (Nat.pow_pos (by omega)));have WA:Y*2 ^ s<=X*2 ^ s:=Nat.mul_le_mul_right _ dU;have Wz:Y<=Y*2 ^ s:=Nat.le_mul_of_pos_right _ (Nat.pow_pos (by omega));have rZ:=B5 WA;have pH:=B5 Wz;have zv:=KW X hs;have HDQ:=J (Qx X Y s);have tt:=J (Qa X Y s);have iJ:=fun g=>jm.o.arr.low (g:=g)
 have i9:=MP vX;have gg:=Qd vX;have nw:=DC (Eu (Y*2 ^ s));rw[Ah]at nw;obtain⟨u0,mP⟩:∃u0,Af (X*2 ^ s)++[0]=u0:=⟨_,rfl⟩;have uB:val u0=X*2 ^ s:=by rw[<-mP,Cm,Ah,Nat.mul_zero,Nat.add_zero]
 have yV:Ok u0:=by rw[<-mP];exact(Eu _).snoc (by omega)
 have uC:u0.length=(Af (X*2 ^ s)).length+1:=by rw[<-mP];simp
 have uA:u0.getD (u0.length-1) 0=0:=by
  rw[uC,Nat.add_sub_cancel,<-mP,List.getD_eq_getElem?_getD,List.getElem?_append_right (Nat.le_refl _),Nat.sub_self];rfl
 rw[mP]at mf;have tN:=yb.o;rw[<-tN]at rZ pH i9 gg nw iJ;obtain⟨m4,mh⟩:∃m4,n4=m4+2:=⟨n4-2,by omega⟩;obtain⟨M,hM⟩:∃M,u0.length=m4+2+(M+1):=⟨u0.length-(m4+2)-1,by omega⟩;have zo:=tN;rw[mh]at tN rZ pH i9 gg nw iJ jm kj;subst mh;have aF:Hid (D5 u0 u0 [] (Y*2 ^ s) (M+1)):=J (by
  have:=D5.start (V:=Y*2 ^ s) (n:=m4+2) yV (by omega) (by omega) uA i9
  rwa [show u0.length-(m4+2)=M+1 by omega]at this)
 obtain⟨gu,cu,RX,rfl,YK,zX,zW,sh,sd⟩:=mf.blockR (by omega);have Xj:=J sh;have u5:=iJ gu (by omega) YK;have xc:=J u5;have mC:=J tN;have fE:(u0.length:Int)-((m4:Int)+2)=(M:Int)+1:=by omega
 have dZ:=Fw M (by omega);have wL:=J uB;obtain⟨Lu,Uq⟩:∃Lu,u0.length=Lu:=⟨_,rfl⟩;rw[Uq]at fE zX hM sd ⊢;have lP:=J Uq;have Zg:Lu<=134217730:=by omega
 have Yx:m4<=134217728:=by omega
 unfold maxLen at zW;have HCU3:=J sd;clear sd;have HYL:=J i9;have UH:=J gg;have pZ:=J nw;have HM:=J hM;clear mP Uq zo uB uA tN rZ pH zv i9 gg nw iJ mf sh u5 kB bM WA Wz uC hM;go_wp2_with fail;go_simp;go_wp2_with fail;clear dZ fE;have YJ:=Xj.o.lt;have ek:=J (aO.o.alloc (.cells (zeros (M+1)) 183));have fD:=J (Xj.o.alloc (.cells (zeros (M+1)) 183));have HA0:=J (kj.o.ext ((Ext.refl w6).alloc (.cells (zeros (M+1)) 183)));have Z0:=J (Blk.new w6 183 (zeros (M+1)));have U8:=J (kj.o.low (g:=w6.heap.size) (by rw[<-yb.o];omega) (Nat.le_refl _));have Vv:=J aO.o.size;generalize w6.heap.size=gq at *;have Wm:gu≠gq:=by omega
 go_loopw [15] (fun s15 wr=>∃(K:Nat) (us qs:List Nat),K<=M+1/\s15= .int .i64 ((K:Int)-1)/\K+qs.length=M+1/\S7 w wr u0 us qs (Y*2 ^ s) gu gq K RX (.slice A4 (m4+2) c4)) (fun s15 _=>(intOf s15+1).toNat)
 case atStart=>exact⟨M+1,u0,[],Nat.le_refl _,by congr 1;omega,rfl,aF.o,Cx,by rw[List.append_nil];exact Z0.o,fD.o,HA0.o,ek.o⟩
 case round=>
  obtain⟨K,us,qs,hK,rfl,Yc,eS,mc,tT,sh,xQ,an⟩:=hrel;rcases Nat.eq_zero_or_pos K with h0|h0
  ·subst h0;obtain⟨jb,pB⟩:=eS.done pZ.o;rw[wL.o,HDQ.o]at jb;rw[wL.o]at pB;have Up:=HM.o;have yU:us.length=Lu:=by rw[eS.1];exact lP.o
   have qz:qs.length=M+1:=by omega
   have Wy:Arr wr (.slice (some ⟨gq,0,none⟩) (M+1) (M+1)) qs:=by
    have h3:=(Own.block (B:=gq) mc (by simpa using tT) (Nat.le_refl _) (by omega)).arr
    rwa [qz]at h3
   have Wx:Arr wr (.slice (some ⟨gu,0,none⟩) (m4+2) cu) (us.take (m4+2)):=by
    have h3:=R3 (c:=cu) sh eS.2.1 (by omega) (by unfold maxLen;omega);obtain⟨A',c',he,h4⟩:=h3.take (m4+2) (by omega);injection he with h5 _ h6
    subst h5 h6;exact h4
   have WV:=J (fun W hx=>BU W _ _ (Wy.ext hx) (by omega));have vR:Arr wr (.slice (some ⟨gu,0,none⟩) ((m4:Int)+2).toNat cu) (us.take (m4+2)):=by
    rw[show ((m4:Int)+2).toNat=m4+2 by omega];exact Wx
   have WU:=J (fun W hx=>BU W _ _ (vR.ext hx) (by rw[List.length_take];omega));rw[jb]at WV;rw[pB]at WU;have WW:=J (fun W v a=>Sx W v (Af (X*2 ^ s % (Y*2 ^ s))) s a (by
    have:=B5 (Nat.le_of_lt (Nat.mod_lt (X*2 ^ s) (Nat.pos_of_ne_zero vX)));rw[<-yb.o]at this;omega) (by omega))
   rw[Ah,tt.o]at WW;have mV:=J an;have Yq:m4+2<=Lu:=by omega
   have Yt:(0:Int)<=(m4:Int)+2:=by omega
   have Ys:(m4:Int)+2<=(cu:Int):=by omega
   clear jb pB Wy Wx vR tT sh xQ eS yU Up qz an Yc;go_wp2_with fail
   go_region_held3 (fun w'=>Ext wr w')
    (first|exact(Ext.refl wr).drew|assumption|exact Ext.trans (by assumption) (by assumption))
    (first
     |(go_at_call 188;(with_reducible refine(WV.o _ (by assumption)).mono ?_);rintro e w9 ⟨v9,rfl,nM,iV⟩;have wY:=J (nM.mono (Nat.le_trans mV.o.size (Ext.size (w:=wr) (by assumption))));obtain⟨n9,A9,c9,rfl⟩:=nM.shape;(try have U2:=J (U2.o.ext iV));(try have j6:=J (j6.o.ext iV));clear nM)
     |(go_at_call 188;(with_reducible refine(WU.o _ (by assumption)).mono ?_);rintro e w8 ⟨v8,rfl,rO,bI⟩;have U2:=J rO;obtain⟨n8,A8,c8,rfl⟩:=rO.shape;(try have wY:=J (wY.o.ext bI));clear rO)
     |(go_at_call 295;(with_reducible refine(WW.o _ _ U2.o.arr).mono ?_);rintro e w7 ⟨v7,rfl,rP,bq⟩;have j6:=J (rP.mono (Nat.le_trans mV.o.size (Ext.size (w:=wr) (by assumption))));obtain⟨n7,A7,c7,rfl⟩:=rP.shape;(try have wY:=J (wY.o.ext bq));clear rP))
   all_goals
    go_wp2_with fail;go_ret3;exact⟨_,_,rfl,wY.o,j6.o,mV.o.trans (by assumption)⟩
  ·obtain⟨j,rfl⟩:∃j,K=j+1:=⟨K-1,by omega⟩;have yU:us.length=Lu:=by rw[eS.1];exact lP.o
   have Up:=HM.o;have u4:=xc.o;have HD:=J (Qz RX wr gu j (cu-j) m4 us (.slice A4 (m4+2) c4) (Af (Y*2 ^ s)) sh eS.2.1 yb.o.symm (by omega) (by omega) (by omega) (by unfold maxLen;omega) xQ u4 UH.o
    (by rw[Ah];exact(eS.seg_lt (by omega) pZ.o).2))
   rw[Ah,show m4+3=j+(m4+2)+1-j by omega]at HD;have hjb:j+(m4+2)+1<=Lu:=by omega
   have qe:=J (fun zs h1 h2 h3=>eS.step (zs:=zs) (n:=m4+2) (by omega) pZ.o (Nat.pos_of_ne_zero vX) (by omega) h1 h2 h3);have ky:val (seg us j (m4+2)) / (Y*2 ^ s)<4294967296:=by
    rw[Nat.div_lt_iff_lt_mul (Nat.pos_of_ne_zero vX),Nat.mul_comm];exact(eS.seg_lt (by omega) pZ.o).2
   have z7:=tT.lt;have Fn:=tT;have HBQ:=J tT;have HAV:=J xQ;have mV:=J an;clear tT xQ an sh eS u4 Fn yU Up;generalize val (seg us j (m4+2)) / (Y*2 ^ s)=D at *;go_wp2_with fail;refine HD.o.mono ?_
   rintro e w7 ⟨zs,rfl,mO,xD,VH,vJ,co⟩;have mG:=J (qe.o zs xD (by rw[mO];omega) VH);have pR:Blk w7 gq 183 (cells (List.replicate (j+1) 0++qs)):=(co.block gq z7 (by simpa using Wm.symm)).trans HBQ.o;have ai:=pR.cell j;have hfz:=pR.frozen j;rw[CK _ _ (by simp;omega)]at ai;have sj:=pR.set_ j (d32 D);rw[CI,Jd]at sj;have fP:=J sj;have UM:=J (vJ.far (p:=⟨gq,j,none⟩) Wm (d32 D));have ym:=J ((HAV.o.kept co xc.o).put U8.o j (d32 D));have bV:=J ((mV.o.grown co (fun k hk=>by simp at hk;omega)).setCell (p:=⟨gq,j,none⟩) Vv.o (d32 D));clear mO xD VH vJ co pR sj;generalize (List.replicate (j+1) 0++qs).getD j 0=z at ai;simp only[d32]at ai;go_wp2_with fail;go_roundw
   case rel=>exact⟨j,_,D::qs,by omega,(by first|rfl|(congr 1;omega)),by simp;omega,mG.o,Du ky mc,fP.o,UM.o,ym.o,bV.o⟩
   case measure=>simp[intOf]
theorem FK(w:World)(v u:Value)(xs ys:List Nat)(h:Arr w v xs)(h':Arr w u ys)(hn:xs.length<=134217728)(ck:ys.length<=134217728)(hy:val ys≠0):
  Calls Tryz.prog 275 #[v,u] w (I2 (val xs) (val ys) w):=by
 rcases Nat.lt_or_ge (val xs) (val ys) with h1|h1
 ·exact NR w v u xs ys h h' hn ck h1
 ·have h2:(Af (val ys)).length≠0:=fun e=>hy (Ef.1 (List.eq_nil_of_length_eq_zero e))
  rcases Nat.lt_or_ge (Af (val ys)).length 2 with h3|h3
  ·exact Mm w v u xs ys h h' hn ck h1 (by omega)
  ·exact Lw w v u xs ys h h' hn ck h1 h3
theorem FY(l:List UInt8)(a i:Nat):Ac (l.drop a) i=Ac l (a+i):=by
 unfold Ac;rw[List.getD_eq_getElem?_getD,List.getD_eq_getElem?_getD,List.getElem?_drop]
theorem LY(l:List UInt8):CS l=(!(l == []) && decide (l.length<=24) && Ev (Ac l 0) && l.all (fun c=>BN c.toNat)):=rfl
theorem J5{l:List UInt8}{i:Nat}(h:i<l.length)(hf:BN (Ac l i)=false):l.all (fun c=>BN c.toNat)=false:=by
 rw[List.all_eq_false];exact⟨l[i],List.getElem_mem h,by rw[<-Bu l i h,hf];simp⟩
theorem Kp{l:List UInt8}(h:∀i,i<l.length->BN (Ac l i)=true):l.all (fun c=>BN c.toNat)=true:=by
 rw[List.all_eq_true];intro c hc;obtain⟨i,hi,rfl⟩:=List.getElem_of_mem hc;rw[<-Bu l i hi];exact h i hi
theorem I5(w:World)(l:List UInt8)(hl:l.length<=1073741824):Calls Tryz.prog 94 #[str l] w fun e w'=>e= .returned (.bool (CS l))/\w=w':=by
 have H:=J (LY l);rcases Nat.eq_zero_or_pos l.length with h0|h0
 ·obtain rfl:l=[]:=List.eq_nil_of_length_eq_zero h0;have HR:Hid (CS []=false):=J rfl;have he:(([]:List UInt8) == [])=true:=rfl;clear h0 H;go_enter Tryz.func94,Tryz.ntmps94;go_wp2_with fail;go_ret;rw[HR.o];exact⟨rfl,rfl⟩
 ·have he:(l == [])=false:=by cases l<;>simp_all
  have h0i:(0:Int)<(l.length:Int):=by omega
  rcases Nat.lt_or_ge 24 l.length with h24|h24
  ·have HR:Hid (CS l=false):=J (by rw[H.o,decide_eq_false (by omega)];simp);have hd:(24:Int)<(l.length:Int):=by omega
   clear H h0 h24;go_enter Tryz.func94,Tryz.ntmps94;go_wp2_with fail;go_ret;rw[HR.o];exact⟨rfl,rfl⟩
  ·have hd:¬(24:Int)<(l.length:Int):=by omega
   have ba:decide ((24:Int)<(l.length:Int))=false:=by simp;omega
   have fh:=CM l 0;have aW:=J (fun W=>G7 W (Ac l 0) fh);cases hlet:Ev (Ac l 0)
   ·have HR:Hid (CS l=false):=J (by rw[H.o,hlet];simp);rw[hlet]at aW;clear H h0 h24 hlet;go_enter Tryz.func94,Tryz.ntmps94;go_wp2_with fail;refine(aW.o _).mono ?_
    rintro e w1 ⟨rfl,rfl⟩;go_wp2_with fail;go_ret;rw[HR.o];exact⟨rfl,rfl⟩
   ·have HR:Hid (CS l=l.all (fun c=>BN c.toNat)):=J (by rw[H.o,hlet,he,decide_eq_true h24];simp);rw[hlet]at aW;clear H hlet;go_enter Tryz.func94,Tryz.ntmps94;go_wp2_with fail;refine(aW.o _).mono ?_
    rintro e w1 ⟨rfl,rfl⟩;go_wp2_with fail
    go_loop [19] (fun s=>∃i:Nat,i<=l.length/\s= .int .i64 (i:Int)/\Hid (∀j,j<i->BN (Ac l j)=true)) (fun s=>l.length-(intOf s).toNat)
    case atStart=>exact⟨0,Nat.zero_le _,rfl,J (fun j hj=>by omega)⟩
    case round=>
     obtain⟨i,hi,rfl,HA⟩:=hrel;by_cases hlt:i<l.length
     ·have Y1:=CM l i;have HC:=J (fun W=>Oh W (Ac l i) Y1);cases hw:BN (Ac l i)
      ·have HF:Hid (CS l=false):=J (by rw[HR.o];exact J5 hlt hw);rw[hw]at HC;clear hw;go_wp2_with fail;refine(HC.o _).mono ?_
       rintro e w1 ⟨rfl,rfl⟩;go_wp2_with fail;go_ret;rw[HF.o];exact⟨rfl,rfl⟩
      ·have HN:Hid (∀j,j<i+1->BN (Ac l j)=true):=J (fun j hj=>by
        rcases Nat.lt_or_ge j i with h1|h1
        ·exact HA.o j h1
        ·obtain rfl:j=i:=by omega
         exact hw)
       rw[hw]at HC;clear hw;go_wp2_with fail;refine(HC.o _).mono ?_
       rintro e w1 ⟨rfl,rfl⟩;go_wp2_with fail
       go_round
       case rel=>exact⟨i+1,by omega,by go_num,HN⟩
       case measure=>simp[intOf];omega
     ·obtain rfl:i=l.length:=by omega
      have HF:Hid (CS l=true):=J (by rw[HR.o];exact Kp HA.o);go_wp2_with fail;go_ret;rw[HF.o];exact⟨rfl,rfl⟩
end Big
end Go.Proofs.YtkoaogkknnelaaaGreatDoor
