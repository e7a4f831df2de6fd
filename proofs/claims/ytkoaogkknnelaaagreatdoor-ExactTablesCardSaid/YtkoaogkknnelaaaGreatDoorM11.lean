import Derived.Laws.AppendOwn
import Derived.Test.YtkoaogkknnelaaaGreatDoorM10
set_option linter.unusedVariables false
set_option linter.unusedSimpArgs false
set_option maxRecDepth 100000
namespace Go.Proofs.YtkoaogkknnelaaaGreatDoor
namespace Big
open Lib renaming hid → J
open Go.RowKit
theorem MH(w:World)(n:Nat)(hn:n<256):Calls Tryz.prog 196 #[.int .u8 (n:Int)] w fun e w'=>e= .returned (.bool (Dl n))/\w=w':=by
 have e1:decide ((48:Int)<=(n:Int))=decide (48<=n):=by rw[decide_eq_decide];omega
 have e2:decide ((n:Int)<=57)=decide (n<=57):=by rw[decide_eq_decide];omega
 have H:Hid (Dl n=(decide ((48:Int)<=(n:Int)) && decide ((n:Int)<=57))):=J (by rw[e1,e2];rfl);clear e1 e2;cases b1:decide ((48:Int)<=(n:Int))<;>cases b2:decide ((n:Int)<=57)
 all_goals first|(exfalso;simp only[decide_eq_false_iff_not,decide_eq_true_eq]at b1 b2;omega)|skip
 all_goals
  rw[b1,b2]at H;go_enter Tryz.func196,Tryz.ntmps196;go_wp2_with fail;go_ret;rw[H.o];exact⟨rfl,rfl⟩
theorem Gf(w:World)(n:Nat)(hn:n<256):Calls Tryz.prog 124 #[.int .u8 (n:Int)] w fun e w'=>e= .returned (.bool (Dl n))/\w=w':=by
 have e1:decide ((48:Int)<=(n:Int))=decide (48<=n):=by rw[decide_eq_decide];omega
 have e2:decide ((n:Int)<=57)=decide (n<=57):=by rw[decide_eq_decide];omega
 have H:Hid (Dl n=(decide ((48:Int)<=(n:Int)) && decide ((n:Int)<=57))):=J (by rw[e1,e2];rfl);clear e1 e2;cases b1:decide ((48:Int)<=(n:Int))<;>cases b2:decide ((n:Int)<=57)
 all_goals first|(exfalso;simp only[decide_eq_false_iff_not,decide_eq_true_eq]at b1 b2;omega)|skip
 all_goals
  rw[b1,b2]at H;go_enter Tryz.func124,Tryz.ntmps124;go_wp2_with fail;go_ret;rw[H.o];exact⟨rfl,rfl⟩
theorem GX(w:World)(n:Nat)(hn:n<256):Calls Tryz.prog 150 #[.int .u8 (n:Int)] w fun e w'=>e= .returned (.bool (Ee n))/\w=w':=by
 have e1:decide ((97:Int)<=(n:Int))=decide (97<=n):=by rw[decide_eq_decide];omega
 have e2:decide ((n:Int)<=122)=decide (n<=122):=by rw[decide_eq_decide];omega
 have e3:decide ((65:Int)<=(n:Int))=decide (65<=n):=by rw[decide_eq_decide];omega
 have e4:decide ((n:Int)<=90)=decide (n<=90):=by rw[decide_eq_decide];omega
 have H:Hid (Ee n=((decide ((97:Int)<=(n:Int)) && decide ((n:Int)<=122)) || (decide ((65:Int)<=(n:Int)) && decide ((n:Int)<=90)))):=J (by rw[e1,e2,e3,e4];rfl);clear e1 e2 e3 e4;cases b1:decide ((97:Int)<=(n:Int))<;>cases b2:decide ((n:Int)<=122)<;>cases b3:decide ((65:Int)<=(n:Int))<;>cases b4:decide ((n:Int)<=90)
 all_goals first|(exfalso;simp only[decide_eq_false_iff_not,decide_eq_true_eq]at b1 b2 b3 b4;omega)|skip
 all_goals
  rw[b1,b2,b3,b4]at H;go_enter Tryz.func150,Tryz.ntmps150;go_wp2_with fail;go_ret;rw[H.o];exact⟨rfl,rfl⟩
theorem Ip(w:World)(n:Nat)(hn:n<256):Calls Tryz.prog 122 #[.int .u8 (n:Int)] w fun e w'=>e= .returned (.bool (Ee n))/\w=w':=by
 have e1:decide ((97:Int)<=(n:Int))=decide (97<=n):=by rw[decide_eq_decide];omega
 have e2:decide ((n:Int)<=122)=decide (n<=122):=by rw[decide_eq_decide];omega
 have e3:decide ((65:Int)<=(n:Int))=decide (65<=n):=by rw[decide_eq_decide];omega
 have e4:decide ((n:Int)<=90)=decide (n<=90):=by rw[decide_eq_decide];omega
 have H:Hid (Ee n=((decide ((97:Int)<=(n:Int)) && decide ((n:Int)<=122)) || (decide ((65:Int)<=(n:Int)) && decide ((n:Int)<=90)))):=J (by rw[e1,e2,e3,e4];rfl);clear e1 e2 e3 e4;cases b1:decide ((97:Int)<=(n:Int))<;>cases b2:decide ((n:Int)<=122)<;>cases b3:decide ((65:Int)<=(n:Int))<;>cases b4:decide ((n:Int)<=90)
 all_goals first|(exfalso;simp only[decide_eq_false_iff_not,decide_eq_true_eq]at b1 b2 b3 b4;omega)|skip
 all_goals
  rw[b1,b2,b3,b4]at H;go_enter Tryz.func122,Tryz.ntmps122;go_wp2_with fail;go_ret;rw[H.o];exact⟨rfl,rfl⟩
theorem Ol(w:World)(n:Nat)(hn:n<256):Calls Tryz.prog 151 #[.int .u8 (n:Int)] w fun e w'=>e= .returned (.bool (BX n))/\w=w':=by
 have H:Hid (BX n=(Ee n || Dl n || n == 95)):=J rfl;have HL:=J (fun W=>GX W n hn);have HD:=J (fun W=>MH W n hn);have hi:((n:Int) == 95)=(n == 95):=by rw[qaM];simp;omega
 have HI:=J hi;clear hi;cases h1:Ee n
 ·cases h2:Dl n
  ·rw[h1]at HL H;rw[h2]at HD H;clear h1 h2;cases h3:(n == 95)
   all_goals
    have hb:=HI.o;rw[h3]at hb;rw[h3]at H;clear h3;go_enter Tryz.func151,Tryz.ntmps151;go_wp2_with fail;refine(HL.o _).mono ?_
    rintro e w1 ⟨rfl,rfl⟩;go_wp2_with fail;refine(HD.o _).mono ?_
    rintro e w1 ⟨rfl,rfl⟩;go_wp2_with fail;go_ret;rw[H.o];exact⟨rfl,rfl⟩
  ·rw[h1]at HL H;rw[h2]at HD H;clear h1 h2;go_enter Tryz.func151,Tryz.ntmps151;go_wp2_with fail;refine(HL.o _).mono ?_
   rintro e w1 ⟨rfl,rfl⟩;go_wp2_with fail;refine(HD.o _).mono ?_
   rintro e w1 ⟨rfl,rfl⟩;go_wp2_with fail;go_ret;rw[H.o];exact⟨rfl,rfl⟩
 ·rw[h1]at HL H;clear h1;go_enter Tryz.func151,Tryz.ntmps151;go_wp2_with fail;refine(HL.o _).mono ?_
  rintro e w1 ⟨rfl,rfl⟩;go_wp2_with fail;go_ret;rw[H.o];exact⟨rfl,rfl⟩
def Tg(t:Tok):List Value:=[.int .i64 (t.kind:Int),.int .i64 (t.at_:Int),str t.text]
def De(ts:List Tok):List Value:=ts.flatMap Tg
theorem Ns(ts:List Tok)(t:Tok):De (ts++[t])=De ts++Tg t:=by simp[De]
theorem AF {P:Program} {ops:Array Oper} {o:Oper} {a:Act} {w:World} {K:Act->World->Prop} {Q:Exit->Act->World->Prop} {E:Prop}
  (hg:o.guard=none) (s x:Operand) (t:TypeId) (aJ:o.op=Op.call { callee:=Callee.builtin Builtin.append,args:= #[s,x],argTypes:= #[t,t] })
  (base:Nat) (e:TypeId) (i:TypeInfo) (z:Value) (size bytes:Nat) (h1:P.underlying t=some (.slice e)) (h2:P.info? e=some i) (h3:i.zero=some z) (h4:i.size=size) (h5:i.bytes=bytes) (h6:z.cells.size=size) (h7:0<size)
  (v:Value) (n:Nat) (xs:List Value) (hs:a.eval s=v) (al:w.ownsRow base e size v n xs)
  (ad:Addr) (m c:Nat) (nO:List Value) (hx:a.eval x= .slice (some ad) m c) (hn:nO.length=m*size) (hc:∀j u,nO[j]? =some u->w.cell? (ad.add j)=some u) (Wa:∀u∈nO,u.oneCell'=true)
  (b1:n+m<=maxLen) (b2:(n+m)*bytes<=140737488355328) (b3:base<=w.heap.size)
  (hK:∀v' w',w'.ownsRow base e size v' (n+m) (xs++nO)->w.grownBy w' v.ownBlock->K (a.put o.dst v') w'):
  if Region.wanted o (yielded ops a.tmps)=true then Oper.wp P o a w K Q else E:=by
 have hw:Region.wanted o (yielded ops a.tmps)=true:=by simp[Region.wanted,hg]
 rw[if_pos hw];obtain⟨v',w',fG,r1,r2,_⟩:=run_append_own (P:=P) w base t o.type e i z size bytes h1 h2 h3 h4 h5 h6 h7 v n xs al ad m c nO hn hc Wa b1 b2 b3;unfold Oper.wp;simp[execOp,aJ,resolve,invoke,builtin,hs,hx,fG,Result.andThen];exact hK v' w' r1 r2
theorem Ss:(Tryz.prog.info? 122).map (fun i=>(i.zero,i.size,i.bytes))=some (some (.agg #[.int .i64 0,.int .i64 0,.string ⟨#[]⟩]),3,32):=by kernel_rfl
theorem Ah{w w':World}{base:Nat}{e:TypeId}{size n:Nat}{v:Value}{xs:List Value}(h:w.ownsRow base e size v n xs)(hb:∀g,base<=g->g<w.heap.size->w'.heap[g]? =w.heap[g]?):w'.ownsRow base e size v n xs:=by
 obtain⟨h1,h2⟩:=h;refine⟨h1,?_⟩;rcases h2 with h2|⟨g,cap,cur,rfl,hg,hh,r1,r2,r3,r4⟩
 ·exact .inl h2
 ·refine .inr ⟨g,cap,cur,rfl,hg,?_,r1,r2,r3,r4⟩;have hlt:g<w.heap.size:=by
   rcases qah g w.heap.size with h|h
   ·exact h
   ·rw[qbg h]at hh;cases hh
  rw[hb g hg hlt,hh]
theorem AQ{w:World}{base:Nat}{e:TypeId}{size n:Nat}{v:Value}{xs:List Value}(h:w.ownsRow base e size v n xs):∀k,v.ownBlock=some k->base<=k:=by
 obtain⟨h1,h2⟩:=h;rcases h2 with ⟨rfl,_⟩|⟨g,cap,cur,rfl,hg,_⟩
 ·intro k hk;simp[Value.ownBlock]at hk
 ·intro k hk;simp only[Value.ownBlock,qar]at hk;omega
theorem Aw{w:World}{base:Nat}{e:TypeId}{size n:Nat}{v:Value}{xs:List Value}(h:w.ownsRow base e size v n xs):∃A c,v= .slice A n c:=by
 obtain⟨h1,h2⟩:=h;rcases h2 with ⟨rfl,rfl⟩|⟨g,cap,cur,rfl,_⟩
 ·exact⟨_,_,rfl⟩
 ·exact⟨_,_,rfl⟩
def ndC(x:Nd):List Value:=[.int .i64 x.kind,.int .i64 x.a,.int .i64 x.b,.int .i64 x.n,str x.text]
def BR(l:List Nd):List Value:=l.flatMap ndC
theorem Iz(l:List Nd):(BR l).length=l.length*5:=by
 induction l with
 |nil=>rfl
 |cons t ts ih=>
  unfold BR at *;rw[qbW,qac,ih,qaC];simp[ndC];omega
theorem Dc(l m:List Nd):BR (l++m)=BR l++BR m:=by simp[BR]
theorem EM(x:Nd):BR [x]=ndC x:=by simp[BR]
theorem Se(ts:List Nd)(i j:Nat)(hi:i<ts.length)(hj:j<5):(BR ts)[i*5+j]? =(ndC ts[i])[j]? :=by
 induction ts generalizing i with
 |nil=>simp at hi
 |cons t ts ih=>
  have hl:(ndC t).length=5:=rfl;unfold BR at *;rw[qbW];cases i with
  |zero=>
   rw[qcy,qaW,qat (by omega)];rfl
  |succ i=>
   rw[qai (by omega),hl,show (i+1)*5+j-5=i*5+j by omega,ih i (by simpa using hi)];rfl
def OG(w:World)(b o:Nat)(x:Nd):Prop:=
 w.cell? ⟨b,o,none⟩=some (.int .i64 x.kind)/\w.cell? ⟨b,o+1,none⟩=some (.int .i64 x.a)/\w.cell? ⟨b,o+2,none⟩=some (.int .i64 x.b)/\w.cell? ⟨b,o+3,none⟩=some (.int .i64 x.n)/\w.cell? ⟨b,o+4,none⟩=some (str x.text)
def RNd(w:World)(v:Value)(l:List Nd):Prop:=
 ∃A c,v= .slice A l.length c/\(0<l.length->∃b o,A=some ⟨b,o,none⟩/\b<w.heap.size/\∀i (hi:i<l.length),OG w b (o+i*5) l[i])
theorem OG.ext{w w':World}{b o:Nat}{x:Nd}(h:OG w b o x)(hx:Ext w w')(hb:b<w.heap.size):OG w' b o x:=by
 obtain⟨h0,h1,h2,h3,h4⟩:=h;exact⟨(hx.cell hb).trans h0,(hx.cell hb).trans h1,(hx.cell hb).trans h2,(hx.cell hb).trans h3,(hx.cell hb).trans h4⟩
theorem RNd.ext{w w':World}{v:Value}{l:List Nd}(h:RNd w v l)(hx:Ext w w'):RNd w' v l:=by
 obtain⟨A,c,rfl,h2⟩:=h;refine⟨A,c,rfl,fun hp=> ?_⟩;obtain⟨b,o,rfl,hb,hc⟩:=h2 hp;exact⟨b,o,rfl,qan hb hx.size,fun i hi=>(hc i hi).ext hx hb⟩
def AB(B:Nat)(w:World)(v:Value)(l:List Nd):Prop:=w.ownsRow B 95 5 v l.length (BR l)
theorem AB.nil(B:Nat)(w:World):AB B w (.slice none 0 0) []:=World.ownsRow_nil w B _ 5
theorem AB.read{B:Nat}{w:World}{v:Value}{l:List Nd}(h:AB B w v l):RNd w v l:=by
 unfold AB at h;rcases h.2 with ⟨h1,h2⟩|⟨g,cap,cur,rfl,hg,hh,_⟩
 ·exact⟨none,0,by rw[h1,h2],fun h3=>by omega⟩
 ·refine⟨_,_,rfl,fun _=>⟨g,0,rfl,?_,fun i hi=> ?_⟩⟩
  ·rcases qah g w.heap.size with h|h
   ·exact h
   ·rw[qbg h]at hh;cases hh
  ·have hk:∀j,j<5->w.cell? ⟨g,0+i*5+j,none⟩=(ndC l[i])[j]? :=fun j hj=>by
    rw[qaW,h.cellAt (i*5+j) (by omega),Se l i j hi hj]
   exact⟨hk 0 (by omega),hk 1 (by omega),hk 2 (by omega),hk 3 (by omega),hk 4 (by omega)⟩
theorem AB.shape{B:Nat}{w:World}{v:Value}{l:List Nd}(h:AB B w v l):∃A c,v= .slice A l.length c:=Aw h
theorem AB.kept{B:Nat}{w w':World}{v:Value}{l:List Nd}(h:AB B w v l)(hk:∀k,B<=k->k<w.heap.size->w'.heap[k]? =w.heap[k]?):AB B w' v l:=Ah h hk
theorem EP:(Tryz.prog.info? 95).map (fun i=>(i.zero,i.size,i.bytes))=some (some (.agg #[.int .i64 0,.int .i64 0,.int .i64 0,.int .i64 0,.string ⟨#[]⟩]),5,48):=by kernel_rfl
def UL(w:World)(v:Value)(ls:List (List UInt8)):Prop:=DX w v (ls.map str)
def Q5(B:Nat)(w:World)(v:Value)(ls:List (List UInt8)):Prop:=CY 9 B w v (ls.map str)
section
variable {w w':World} {v:Value} {ls:List (List UInt8)} {B B':Nat}
theorem Q5.arr(h:Q5 B w v ls):UL w v ls:=CY.arr h
theorem MC{j:Nat}(hj:j<ls.length):(ls.map str)[j]? =some (str ls[j]):=by
 rw[qaP,qad hj];rfl
theorem UL.open(h:UL w v ls):∃A c,v= .slice A ls.length c/\ls.length<=c/\c<=maxLen/\
  (0<ls.length->∃b o,A=some ⟨b,o,none⟩/\b<w.heap.size/\∀j (hj:j<ls.length),w.cell? ⟨b,o+j,none⟩=some (str ls[j])):=by
 obtain⟨A,c,rfl,h2,h3,h4⟩:=h;rw[qas]at h2 h4;refine⟨A,c,by rw[qas],h2,h3,fun hp=> ?_⟩;obtain⟨b,o,rfl,hlt,hc⟩:=h4 hp;exact⟨b,o,rfl,hlt,fun j hj=>hc j _ (MC hj)⟩
theorem Q5.block{g:Nat}(h:Blk w g 9 (ls.map str).toArray)(hg:B<=g)(hm:ls.length<=2147483648):Q5 B w (.slice (some ⟨g,0,none⟩) ls.length ls.length) ls:=by
 refine⟨some ⟨g,0,none⟩,ls.length,by rw[qas],by rw[qas];omega,by unfold maxLen;omega,.inr ⟨g,_,rfl,hg,h,by simp,?_⟩⟩;rw[qas];show (ls.map str).take ls.length=_;rw[qaf (by simp)]
end
def H5:List (List UInt8):=[[97],[98],[99],[120,49],[89,95,50]]
def EF:List (List UInt8):=[[48],[49],[50],[51],[48,46,53],[49,46,50,53],[55],[49,48],[48,46,49],[49,50,46,55,53],[49,48,48],[51,46,49,52],[54,52],[48,46,48,48,49]]
theorem KV(w:World):Calls Tryz.prog 92 #[] w fun e w'=>e= .returned (.slice (some ⟨w.heap.size,0,none⟩) 5 5)/\Blk w' w.heap.size 9 (H5.map str).toArray/\Ext w w':=by
 go_enter Tryz.func92,Tryz.ntmps92;go_wp2_with fail;go_ret;exact⟨rfl,Blk.new w 9 _,(Ext.refl w).alloc _⟩
theorem SL{x:Int}(h0:0<=x)(h1:x<14):∃t,EF[x.toNat]? =some t/\Bh t=0/\t.length<=5:=by
 obtain⟨n,rfl⟩:=qbF h0;have hn:n<EF.length:=by show n<14;omega
 refine⟨EF[n],by simp,?_⟩;have hall:∀t∈EF,Bh t=0/\t.length<=5:=by decide+kernel
 exact hall _ (qaw hn)
theorem N8(B g:Nat)(w:World)(L:Value)(l:List Int)(a:Nat)(h:B3 B g w L l a)(hB:B<=w.heap.size):Calls Tryz.prog 137 #[.pointer (some ⟨g,0,none⟩)] w fun e w'=>∃t,e= .returned (str t)/\Bh t=0/\t.length<=5/\B3 B g w' L l (Dm l a)/\KB w.heap.size g w w':=by
 have fK:(EF.map str).toArray= #[.string ⟨#[48]⟩,.string ⟨#[49]⟩,.string ⟨#[50]⟩,.string ⟨#[51]⟩,.string ⟨#[48,46,53]⟩,.string ⟨#[49,46,50,53]⟩,.string ⟨#[55]⟩,.string ⟨#[49,48]⟩,.string ⟨#[48,46,49]⟩,.string ⟨#[49,50,46,55,53]⟩,.string ⟨#[49,48,48]⟩,.string ⟨#[51,46,49,52]⟩,.string ⟨#[54,52]⟩,.string ⟨#[48,46,48,48,49]⟩]:=rfl;have am:=Blk.new w 9 (EF.map str).toArray;have ak:=(Ext.refl w).alloc (.cells (EF.map str).toArray 9);have cB:(w.alloc (.cells (EF.map str).toArray 9)).heap.size=w.heap.size+1:=by simp
 have xT:=h.below (Below.mono ak hB);rw[fK]at am ak xT cB;have HN:=J (GR B g _ L l a 14 xT (by decide) (by decide));have ag:=J am;have au:=J ak;have hg:=h.blk.lt;have HG:Hid (g≠w.heap.size):=J (by omega);have hr:=Cl (l:=l) (a:=a) (n:=14) (by decide);obtain⟨t,ht,hc,jk⟩:=SL hr.1 hr.2;obtain⟨h0,h1⟩:=hr;have mW:=J ht;have HC:=J (And.intro hc jk);generalize CM l a 14=x at *;clear h am ak xT fK ht hc jk;go_enter Tryz.func137,Tryz.ntmps137;go_wp2_with fail;refine HN.o.mono ?_
 rintro e w2 ⟨rfl,lb,hk⟩;have hb2:=(hk (w.heap.size+1)).blk ag.o (by omega) (fun e=>HG.o e.symm);have hst:=hb2.cell x.toNat;have kI:(EF.map str)[x.toNat]? =some (str t):=by rw[qaP,mW.o];rfl
 have q6:((EF.map str).toArray)[x.toNat]? =some (str t):=by rw[qbL];exact kI
 replace hst:=hst.trans q6
 have WC:=J lb;have HK:=J (((KB.refl w.heap.size g w).ext au.o (qab _)).trans (hk w.heap.size));clear lb hk hb2 kI q6;go_wp2_with fail;go_ret;exact⟨t,rfl,HC.o.1,HC.o.2,WC.o,HK.o⟩
def Az(k:Int):Int:=if k<1\/16<k then-1 else if k<=4 then 0 else if 6<=k/\k<=9 then 2 else 1
theorem Bv(w:World)(k:Int):Calls Tryz.prog 87 #[.int .i64 k] w fun e w'=>e= .returned (.int .i64 (Az k))/\w=w':=by
 have key:(k<1/\Az k= -1)\/(¬k<1/\16<k/\Az k= -1)\/(¬k<1/\¬16<k/\k<=4/\Az k=0)\/(¬k<1/\¬16<k/\¬k<=4/\6<=k/\k<=9/\Az k=2)\/(¬k<1/\¬16<k/\¬k<=4/\¬6<=k/\Az k=1)\/(¬k<1/\¬16<k/\¬k<=4/\6<=k/\¬k<=9/\Az k=1):=by
  unfold Az;by_cases h1:k<1
  ·simp[h1]
  by_cases h2:16<k
  ·simp[h1,h2]
  by_cases h3:k<=4
  ·simp[h1,h2,h3]
  by_cases h4:6<=k
  ·by_cases h5:k<=9
   ·simp[h1,h2,h3,h4,h5]
   ·simp[h1,h2,h3,h4,h5]
  ·simp[h1,h2,h3,h4]
 rcases key with ⟨h1,h⟩|⟨h1,h2,h⟩|⟨h1,h2,h3,h⟩|⟨h1,h2,h3,h4,h5,h⟩|⟨h1,h2,h3,h4,h⟩|⟨h1,h2,h3,h4,h5,h⟩
 all_goals
  have H:=J h;clear h;go_enter Tryz.func87,Tryz.ntmps87;go_wp2_with fail;go_ret;exact⟨by rw[H.o];rfl,rfl⟩
end Big
end Go.Proofs.YtkoaogkknnelaaaGreatDoor
