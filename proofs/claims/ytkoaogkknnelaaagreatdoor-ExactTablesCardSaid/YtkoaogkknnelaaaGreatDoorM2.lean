import Derived.Test.YtkoaogkknnelaaaGreatDoorM1
import Derived.Test.YtkoaogkknnelaaaGreatDoorM1
set_option linter.unusedVariables false
set_option linter.unusedSimpArgs false
namespace Go.Proofs.YtkoaogkknnelaaaGreatDoor
namespace Big
theorem Hz(s:Nat)(h:s<=32):4294967296=2 ^ s*2 ^ (32-s):=by
 rw[<-qbE,show s+(32-s)=32 by omega]
theorem GJ(s:Nat)(h:s<=31):2 ^ s<=2147483648:=qae (qbe (by omega) h) (by decide)
theorem Hu{x s:Nat}(hx:x<4294967296)(hs:s<=31):x*2 ^ s / 4294967296<2 ^ s/\x*2 ^ s<18446744073709551616/\2 ^ s ∣ (x*2 ^ s % 4294967296):=by
 have hp:0<2 ^ s:=qbb (by omega);refine⟨?_,?_,?_⟩
 ·refine qbj ?_
  exact Nat.mul_lt_mul_of_pos_right hx hp
 ·have:=GJ s hs;have h2:x*2 ^ s<=4294967295*2147483648:=qcf (by omega) this;omega
 ·have h1:2 ^ s ∣ 4294967296:=⟨2 ^ (32-s),Hz s (by omega)⟩;exact(Nat.dvd_mod_iff h1).2 ⟨x,qaJ _ _⟩
theorem Rs{c y s:Nat}(hc:c<2 ^ s)(hy:2 ^ s ∣ y):c ||| y=c+y:=by
 obtain⟨z,rfl⟩:=hy;rw[qaJ,<-Nat.shiftLeft_eq,Nat.or_comm,<-Nat.shiftLeft_add_eq_or_of_lt hc,qbM]
theorem L7{c y s:Nat}(hs:s<=31)(hc:c<2 ^ s)(hy:2 ^ s ∣ y)(hlt:y<4294967296):c+y<4294967296:=by
 obtain⟨z,rfl⟩:=hy;have h0:=Hz s (by omega);have h1:z<2 ^ (32-s):=by
  rw[h0]at hlt;exact Nat.lt_of_mul_lt_mul_left hlt
 have h2:2 ^ s*(z+1)<=2 ^ s*2 ^ (32-s):=qaH _ h1;rw[<-h0,qax,qbp]at h2;omega
theorem Rr{xs zs:List Nat}{i c s y:Nat}(hl:zs.length=i)(h:val zs+4294967296 ^ i*c=val (xs.take i)*2 ^ s)(hy:y=xs.getD i 0*2 ^ s):
  val (zs++[c+y % 4294967296])+4294967296 ^ (i+1)*(y / 4294967296)=val (xs.take (i+1))*2 ^ s:=by
 rw[By,BS,hl,qaY,<-h,qaA,<-hy,qay,qaA,qax,qbO,qbO,<-qax,qcB,qbO]
theorem OO(d s:Nat)(zs:List Nat)(x:Nat)(h:val zs=x*2 ^ s):val (List.replicate d 0++zs)=x*2 ^ (32*d+s):=by
 rw[D8,Hp,qaX,qaW,h,qbE,qbY,show (2:Nat) ^ 32=4294967296 from rfl,qcs]
theorem Pv{x y r s:Nat}(hs:s<=31):(x+4294967296*(y+4294967296*r)) / 2 ^ s % 4294967296=(x+4294967296*y) / 2 ^ s % 4294967296:=by
 have h0:=Hz s (by omega);have hp:0<2 ^ s:=qbb (by omega);have e:x+4294967296*(y+4294967296*r)=x+4294967296*y+2 ^ s*(4294967296*(2 ^ (32-s)*r)):=by
  have h1:2 ^ s*(4294967296*(2 ^ (32-s)*r))=4294967296*(4294967296*r):=by
   rw[qcs,<-qaA (2 ^ s),<-h0]
  rw[h1];omega
 rw[e,Nat.add_mul_div_left _ _ hp,Nat.add_mul_mod_self_left]
theorem FJ{xs:List Nat}(h:Ok xs)(i:Nat):val xs / 4294967296 ^ i=val (xs.drop i):=by
 rw[Bt xs i,Nat.add_mul_div_left _ _ (Fw i),qbB (BU h i),qaW]
theorem Rp{xs zs:List Nat}{i s N:Nat}(aA:Ok xs)(hN:N=val xs / 2 ^ s)(hs:s<=31)(hl:zs.length=i)(h:val zs=N % 4294967296 ^ i):
  val (zs++[(xs.getD i 0+4294967296*xs.getD (i+1) 0) / 2 ^ s % 4294967296])=N % 4294967296 ^ (i+1):=by
 rw[BS,hl,h,qay,Nat.mod_mul];have h2:N / 4294967296 ^ i=val (xs.drop i) / 2 ^ s:=by
  rw[hN,qch,qaJ,<-qch,FJ aA]
 rw[h2,Bl xs i,Bl xs (i+1),Pv hs]
theorem Ti{xs zs:List Nat}{s N:Nat}(aA:Ok xs)(hN:N=val xs / 2 ^ s)(h:val zs=N % 4294967296 ^ xs.length):val zs=N:=by
 rw[h];exact qbA (qbK (by rw[hN];exact qbs _ _) (Cm aA))
theorem L6{xs:List Nat}(aA:Ok xs)(d s:Nat):val (xs.drop d) / 2 ^ s=val xs / 2 ^ (32*d+s):=by
 rw[<-FJ aA d,qch,qbE,qbY]
theorem Rq{xs:List Nat}(aA:Ok xs){d s:Nat}(h:xs.length<=d):val xs / 2 ^ (32*d+s)=0:=by
 rw[<-L6 aA,qaS h,val,Nat.zero_div]
theorem Qh {us vs zs:List Nat} {i g c b d b' t:Nat} (hl:zs.length=i) (h:val zs+g*val (vs.take i)=val (us.take i)+4294967296 ^ i*(c+b))
  (ht:t=c+g*vs.getD i 0) (hd:us.getD i 0+4294967296*b'=d+t % 4294967296+b):
  val (zs++[d])+g*val (vs.take (i+1))=val (us.take (i+1))+4294967296 ^ (i+1)*(t / 4294967296+b'):=by
 rw[By,By,BS,hl,qax,qay,qaA (4294967296 ^ i)];have h1:g*(4294967296 ^ i*vs.getD i 0)=4294967296 ^ i*(g*vs.getD i 0):=qcs _ _ _;rw[h1];have hm:=qcB t 4294967296;have h2:4294967296 ^ i*(d+g*vs.getD i 0+(c+b))=4294967296 ^ i*(us.getD i 0+4294967296*(t / 4294967296+b')):=by
  congr 1
  omega
 simp only[qax]at h2 h ⊢;omega
theorem Sh {us vs zs:List Nat} {n g c b d b':Nat} (hl:zs.length=n) (hv:vs.length=n) (hu:us.length=n+1) (h:val zs+g*val (vs.take n)=val (us.take n)+4294967296 ^ n*(c+b))
  (hd:us.getD n 0+4294967296*b'=d+c+b):
  val (zs++[d])+g*val vs=val us+4294967296 ^ (n+1)*b':=by
 rw[Bt us n,Bl us n,qaS (by omega),val,qbr,qaN,BS,hl];rw[qaf (by omega)]at h;have h2:4294967296 ^ n*(d+(c+b))=4294967296 ^ n*(us.getD n 0+4294967296*b'):=by
  congr 1
  omega
 rw[qay,qaA];simp only[qax]at h2 h ⊢;omega
theorem Oc{zs:List Nat}{n U V g b:Nat}(hz:Ok zs)(hl:zs.length=n)(h:val zs+g*V=U+4294967296 ^ n*b)(hq:g=U / V)(hb:b<=1):b=0/\val zs=U % V:=by
 have h1:=Cm hz;rw[hl]at h1;have h2:g*V<=U:=by rw[hq];exact Nat.div_mul_le_self U V
 have hb0:b=0:=by
  rcases qag b with h3|h3
  ·exact h3
  ·obtain rfl:b=1:=by omega
   omega
 subst hb0;refine⟨rfl,?_⟩;have:=qcj U V;rw[<-hq]at this;omega
theorem Sg{zs:List Nat}{n U V g b:Nat}(_hz:Ok zs)(hV:0<V)(_hl:zs.length=n)(h:val zs+g*V=U+4294967296 ^ n*b)(hq:g=U / V+1)(hb:b<=1):b=1/\val zs+V=U % V+4294967296 ^ n:=by
 have h3:(U / V+1)*V=U / V*V+V:=by rw[qaY,qbo]
 have h4:=qcj U V;have h5:=qba U hV;rw[hq,h3]at h;have am:b=1:=by
  rcases qag b with h6|h6
  ·subst h6;omega
  ·omega
 subst am;exact⟨rfl,by omega⟩
theorem Q0{us vs zs:List Nat}{i c z c':Nat}(hl:zs.length=i)(h:val zs+4294967296 ^ i*c=val (us.take i)+val (vs.take i))(hz:z+4294967296*c'=us.getD i 0+vs.getD i 0+c):
  val (zs++[z])+4294967296 ^ (i+1)*c'=val (us.take (i+1))+val (vs.take (i+1)):=by
 rw[By,By,BS,hl,qay,qaA];have h2:4294967296 ^ i*(z+4294967296*c')=4294967296 ^ i*(us.getD i 0+vs.getD i 0+c):=by rw[hz]
 simp only[qax]at h2 h ⊢;omega
theorem SX {us vs zs:List Nat} {n c R V:Nat} (xQ:Ok zs) (hvo:Ok vs) (hl:zs.length=n) (hv:vs.length=n) (hu:us.length=n+1) (hV:val vs=V)
  (h:val zs+4294967296 ^ n*c=val (us.take n)+val (vs.take n)) (hR:val us+V=R+4294967296 ^ (n+1)) (hlt:R<V):
  val (zs++[(us.getD n 0+c) % 4294967296])=R:=by
 rw[BS,hl];rw[qaf (by omega:vs.length<=n),hV]at h;have h1:val us=val (us.take n)+4294967296 ^ n*us.getD n 0:=by
  have:=By us n;rw[qaf (by omega)]at this;exact this
 have h3:val zs+4294967296 ^ n*(us.getD n 0+c)=R+4294967296 ^ n*4294967296:=by
  rw[qay]at hR;simp only[qax];omega
 have h4:=Cm xQ;have h5:=Cm hvo;rw[hl]at h4;rw[hv,hV]at h5;have h6:us.getD n 0+c=4294967296:=by
  rcases qcg (us.getD n 0+c) 4294967296 with h7|h7|h7
  ·have:=qaH (4294967296 ^ n) (show us.getD n 0+c+1<=4294967296 from h7);rw[qax,qbp]at this;omega
  ·exact h7
  ·have:=qaH (4294967296 ^ n) (show 4294967296+1<=us.getD n 0+c from h7);rw[qax,qbp]at this;omega
 rw[h6]at h3 ⊢;rw[Nat.mod_self,qbr];omega
theorem FY(us:List Nat)(k i:Nat):(us.drop k).getD i 0=us.getD (k+i) 0:=by
 rw[qaa,qaa,List.getElem?_drop]
theorem H7(us:List Nat){n i:Nat}(h:i<n):(us.take n).getD i 0=us.getD i 0:=by
 rw[qaa,qaa,qcv h]
def seg(us:List Nat)(k n:Nat):List Nat:=(us.drop k).take (n+1)
theorem Ji{us:List Nat}{k n:Nat}(h:k+n+1<=us.length):(seg us k n).length=n+1:=by
 unfold seg;rw[qam,qbn];omega
theorem GE{us:List Nat}{k n i:Nat}(h:i<=n):(seg us k n).getD i 0=us.getD (k+i) 0:=by
 unfold seg;rw[H7 _ (by omega),FY]
theorem Ok.seg{us:List Nat}(h:Ok us)(k n:Nat):Ok (seg us k n):=(h.drop k).take (n+1)
def over(us:List Nat)(k:Nat)(zs:List Nat):List Nat:=us.take k++zs++us.drop (k+zs.length)
theorem Mu(us:List Nat)(k:Nat):over us k []=us:=by simp[over]
theorem AX{us zs:List Nat}{k:Nat}(h:k+zs.length<=us.length):(over us k zs).length=us.length:=by
 simp[over];omega
theorem GL{us zs:List Nat}{k d:Nat}(h:k+zs.length<us.length):(over us k zs).set (k+zs.length) d=over us k (zs++[d]):=by
 unfold over;have hl:(us.take k++zs).length=k+zs.length:=by simp;omega
 rw[qbq _ _ (by omega),hl,qaR,qcq h,qce,qac,qal,<-qbO];simp[qao]
theorem GM{us zs:List Nat}{k i:Nat}(h:k<=us.length)(hi:zs.length<=i):(over us k zs).getD (k+i) 0=us.getD (k+i) 0:=by
 unfold over;have hl:(us.take k++zs).length=k+zs.length:=by simp;omega
 rw[qaa,qaa,qai (by omega),hl,List.getElem?_drop]
 congr 2
 omega
theorem OS{us zs:List Nat}{k i:Nat}(h:k<=us.length)(hi:i<zs.length):(over us k zs).getD (k+i) 0=zs.getD i 0:=by
 unfold over;have hl:(us.take k).length=k:=by simp;omega
 rw[qao,qaa,qaa,qai (by omega),hl,qbu,qat hi]
theorem Qa{us zs ys:List Nat}{k:Nat}(h:k<=us.length)(hl:ys.length=zs.length):over (over us k zs) k ys=over us k ys:=by
 unfold over;have h1:(us.take k).length=k:=by simp;omega
 rw[hl,qao (us.take k) zs,List.take_append_of_le_length (by omega),qaf (by omega)]
 congr 1
 rw[qcx,List.drop_of_length_le (by omega),h1,qaU,qbu,qcx,List.drop_of_length_le (qab _),qaR,qaU,qco]
theorem Ok.over{us zs:List Nat}(h:Ok us)(h':Ok zs)(k:Nat):Ok (over us k zs):=((h.take k).append h').append (h.drop _)
def DO(u0 us qs:List Nat)(V K:Nat):Prop:=
 us.length=u0.length/\Ok us/\us.take K=u0.take K/\val (us.drop K)<V/\val (us.drop K)+val qs*V=val (u0.drop K)
theorem DO.seg_lt{u0 us qs:List Nat}{V k n:Nat}(h:DO u0 us qs V (k+1))(_hn:us.length<=4294967296)(hV:V<4294967296 ^ n):
  val (seg us k n)=us.getD k 0+4294967296*val (us.drop (k+1))/\val (seg us k n)<V*4294967296:=by
 obtain⟨hl,aA,ht,hlt,hv⟩:=h;have h1:val (seg us k n)=val (us.drop k):=by
  unfold seg;have h2:=Bt (us.drop k) (n+1);have h3:val ((us.drop k).drop (n+1))=0:=by
   rw[List.drop_drop,show k+(n+1)=(k+1)+n by omega,<-List.drop_drop,<-FJ (aA.drop (k+1)) n];exact qbB (Nat.lt_trans hlt hV)
  rw[h3,qbr]at h2;exact h2.symm
 rw[h1,Bl us k];refine⟨rfl,?_⟩;have h4:=aA.get k;have h5:=qaH 4294967296 (show val (us.drop (k+1))+1<=V from hlt);rw[qax,qbp,qaJ 4294967296 V]at h5;omega
theorem DO.step {u0 us qs zs:List Nat} {V k n:Nat} (h:DO u0 us qs V (k+1)) (hn:us.length<=4294967296) (hV:V<4294967296 ^ n) (yl:0<V) (hk:k+n+1<=us.length)
  (hz:Ok zs) (hl:zs.length=n+1) (hm:val zs=val (seg us k n) % V):DO u0 (over us k zs) (val (seg us k n) / V::qs) V k:=by
 obtain⟨cB,jI⟩:=h.seg_lt hn hV;obtain⟨h1,aA,ht,hlt,hv⟩:=h;have hd:val ((over us k zs).drop k)=val zs:=by
  unfold over;have h2:(us.take k).length=k:=by simp;omega
  rw[qao,qcx,List.drop_of_length_le (by omega),h2,qaR,qco,qaU,D8];have h3:val (us.drop (k+zs.length))=0:=by
   rw[hl,show k+(n+1)=(k+1)+n by omega,<-List.drop_drop,<-FJ (aA.drop (k+1)) n];exact qbB (Nat.lt_trans hlt hV)
  rw[h3,qbr,qaN]
 refine⟨by rw[AX (by omega),h1],aA.over hz k,?_,?_,?_⟩
 ·unfold over;have h2:(us.take k).length=k:=by simp;omega
  rw[qao,List.take_append_of_le_length (by omega),qaf (by omega)];have:=congrArg (List.take k) ht
  rwa [List.take_take,List.take_take,qbG (by omega)]at this
 ·rw[hd,hm];exact qba _ yl
 ·rw[hd,hm,val];have h2:us.getD k 0=u0.getD k 0:=by
   have:=congrArg (fun l=>l.getD k 0) ht
   rwa [H7 _ (by omega),H7 _ (by omega)]at this
  rw[Bl u0 k,<-hv,<-h2,qaY,qax];have h3:=qcj (val (seg us k n)) V;have h4:4294967296*(val qs*V)=4294967296*val qs*V:=(qaA _ _ _).symm;omega
theorem DO.done{u0 us qs:List Nat}{V n:Nat}(h:DO u0 us qs V 0)(hV:V<4294967296 ^ n):val qs=val u0 / V/\val (us.take n)=val u0 % V:=by
 obtain⟨h1,aA,ht,hlt,hv⟩:=h;rw[qco,qco]at hv;rw[qco]at hlt;have h2:=Bt us n;rw[<-FJ aA n,qbB (Nat.lt_trans hlt hV),qbr,qaN]at h2;rw[h2]at hv hlt;rw[qbM]at hv;exact Ln hlt hv
theorem DO.start{u0:List Nat}{V n:Nat}(aA:Ok u0)(hn:1<=n)(hl:n<=u0.length)(h0:u0.getD (u0.length-1) 0=0)(hV:4294967296 ^ (n-1)<=V):DO u0 u0 [] V (u0.length-n):=by
 refine⟨rfl,aA,rfl,?_,by simp[val]⟩;have h1:=By (u0.drop (u0.length-n)) (n-1);rw[Nat.sub_add_cancel hn,FY,show u0.length-n+(n-1)=u0.length-1 by omega,h0,qbr,qaN,qaf (by simp;omega)]at h1;rw[h1];exact qan (BU (aA.drop _) _) hV
theorem MQ(a b:Nat):Nat.gcd a b=Nat.gcd b (a % b):=by
 rw[Nat.gcd_comm a b,Nat.gcd_rec b a,Nat.gcd_comm]
theorem QN(a b s:Nat):(a*2 ^ s) / (b*2 ^ s)=a / b:=Nat.mul_div_mul_right _ _ (qbb (by omega))
theorem Qj(a b s:Nat):(a*2 ^ s) % (b*2 ^ s) / 2 ^ s=a % b:=by
 rw[Nat.mul_mod_mul_right,Nat.mul_div_cancel _ (qbb (by omega))]
namespace Knuth
structure Setup (B u v v1 v2 M top u0:Nat):Prop where
 hv:∃y,y<M/\v=(v1*B+v2)*M+y
 hu:∃y,y<M/\u=(top*B+u0)*M+y
 lt:u<v*B
 b1:1<=v1
 b2:v2<B
 b0:u0<B
 M1:1<=M
variable {B u v v1 v2 M top u0 g r:Nat}
theorem Setup.vpos(s:Setup B u v v1 v2 M top u0):1<=v:=by
 rcases qag v with h|h
 ·have:=s.lt;rw[h,qcy]at this;omega
 ·exact h
theorem Setup.q_lt(s:Setup B u v v1 v2 M top u0):u / v<B:=by
 rw[Nat.div_lt_iff_lt_mul s.vpos,qaJ];exact s.lt
theorem Setup.q_top(s:Setup B u v v1 v2 M top u0):u / v*(v1*B+v2)<=top*B+u0:=by
 obtain⟨y,hy,hv⟩:=s.hv;obtain⟨z,hz,hu⟩:=s.hu;have h1:u / v*v<=u:=Nat.div_mul_le_self u v;have h2:u / v*((v1*B+v2)*M)<=u / v*v:=qaH _ (by omega);rw[<-qaA]at h2;have h3:(u / v*(v1*B+v2))*M<(top*B+u0+1)*M:=by
  rw[qaY,qbo];omega
 have:=qbZ h3;omega
theorem Setup.q_first(s:Setup B u v v1 v2 M top u0):u / v*v1<=top:=by
 have h:=s.q_top;rw[qax,<-qaA]at h;have h0:=s.b0;have h1:u / v*v1*B<(top+1)*B:=by
  rw[qaY,qbo];omega
 have:=qbZ h1;omega
theorem Setup.lower(s:Setup B u v v1 v2 M top u0)(hg:g*v1+r=top)(hq:u / v<=g)(h:B<=g\/r*B+u0<g*v2):u / v+1<=g:=by
 rcases qah (u / v) g with h1|h1
 ·exact h1
 ·exfalso
  have he:u / v=g:=by omega
  rcases h with h|h
  ·have:=s.q_lt;omega
  ·have h2:=s.q_top;rw[he,qax,<-qaA,<-hg,qaY]at h2;omega
theorem Setup.done(_s:Setup B u v v1 v2 M top u0)(hg:g*v1+r=top)(h:g*v2<=r*B+u0):g*(v1*B+v2)<=top*B+u0:=by
 rw[qax,<-qaA,<-hg,qaY];omega
theorem Setup.top_lt(s:Setup B u v v1 v2 M top u0):top<(v1+1)*B:=by
 obtain⟨y,hy,hv⟩:=s.hv;obtain⟨z,hz,hu⟩:=s.hu;have h1:(top*B)*M<=u:=by
  rw[hu,qaY];omega
 have h2:v<((v1+1)*B)*M:=by
  rw[hv];have h3:(v1*B+v2+1)*M<=((v1+1)*B)*M:=qaF _ (by rw[qaY,qbo];have:=s.b2;omega);rw[qaY,qbo]at h3;omega
 have h4:(top*B)*M<(((v1+1)*B)*M)*B:=qbK h1 (qan s.lt (qaF _ (qaK h2)));have h5:(top*B)*M<(((v1+1)*B)*B)*M:=by
  have e:(((v1+1)*B)*B)*M=(((v1+1)*B)*M)*B:=Nat.mul_right_comm _ _ _;rw[e];exact h4
 exact qbZ (qbZ h5)
theorem Setup.broken(s:Setup B u v v1 v2 M top u0)(hg:g*v1+r=top)(hr:B<=r):g<B/\g*v2<=r*B+u0:=by
 have h1:=s.top_lt;rw[qaY,qbo]at h1;have h2:g*v1<B*v1:=by
  rw[qaJ B v1];omega
 have h3:g<B:=qbZ h2;refine⟨h3,?_⟩;have h4:g*v2<=B*B:=qcf (qaK h3) (qaK s.b2);have h5:B*B<=r*B:=qaF _ hr;omega
theorem Setup.near(s:Setup B u v v1 v2 M top u0)(hb:g<B)(h:g*(v1*B+v2)<=top*B+u0):g<=u / v+1:=by
 obtain⟨y,hy,hv⟩:=s.hv;obtain⟨z,hz,hu⟩:=s.hu;have h1:g*v<=u+v:=by
  have e:g*v=g*(v1*B+v2)*M+g*y:=by rw[hv,qax,qaA]
  have h2:g*(v1*B+v2)*M<=(top*B+u0)*M:=qaF _ h;have h3:g*y<=B*M:=qcf (qaK hb) (qaK hy);have h4:B*M<=v:=by
   rw[hv];have h5:(1*B)*M<=(v1*B+v2)*M:=qaF _ (qae (qaF _ s.b1) (qaO _ _));rw[qbo]at h5;exact qae h5 (qaO _ _)
  rw[e];exact Nat.add_le_add (qae h2 (by rw[hu];exact qaO _ _)) (qae h3 h4)
 rcases qag g with h0|h0
 ·rw[h0];exact qaj _
 ·have h2:(g-1)*v<=u:=by
   rw[Nat.sub_mul,qbo];omega
  exact Nat.sub_le_iff_le_add.1 ((Nat.le_div_iff_mul_le s.vpos).2 h2)
end Knuth
end Big
end Go.Proofs.YtkoaogkknnelaaaGreatDoor
