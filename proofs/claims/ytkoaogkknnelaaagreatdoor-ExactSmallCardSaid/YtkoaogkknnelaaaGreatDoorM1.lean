set_option linter.unusedVariables false
set_option linter.unusedSimpArgs false
namespace Go.Proofs.YtkoaogkknnelaaaGreatDoor
namespace Big
def val:List Nat->Nat
 |[]=>0
 |x::xs=>x+4294967296*val xs
def Ok(xs:List Nat):Prop:=∀x∈xs,x<4294967296
def Fq:Nat->Nat->List Nat
 |0,_=>[]
 |f+1,n=>if n=0 then [] else n % 4294967296::Fq f (n / 4294967296)
def Ac(n:Nat):List Nat:=Fq n n
theorem P4(f:Nat):∀(g n:Nat),n<=f->n<=g->Fq f n=Fq g n:=by
 induction f with
 |zero=>intro g n h _;have:n=0:=by omega
        subst this;cases g<;>simp[Fq]
 |succ f ih=>
  intro g n hf hg;cases g with
  |zero=>have:n=0:=by omega
         subst this;simp[Fq]
  |succ g=>
   simp only[Fq];split
   ·rfl
   ·rw[ih g (n / 4294967296) (by omega) (by omega)]
theorem Bb:Ac 0=[]:=rfl
theorem Cu(n:Nat)(h:n≠0):Ac n=n % 4294967296::Ac (n / 4294967296):=by
 obtain⟨m,rfl⟩:∃m,n=m+1:=⟨n-1,by omega⟩;unfold Ac;rw[Fq,if_neg h,P4 m ((m+1) / 4294967296) _ (by omega) (Nat.le_refl _)]
theorem Jw(x n:Nat)(hx:x<4294967296)(h:x+4294967296*n≠0):Ac (x+4294967296*n)=x::Ac n:=by
 rw[Cu _ h];have h1:(x+4294967296*n) % 4294967296=x:=by omega
 have h2:(x+4294967296*n) / 4294967296=n:=by omega
 rw[h1,h2]
theorem Cj:Ok []:=fun _ h=>by cases h
theorem Dq{x:Nat}{xs:List Nat}(hx:x<4294967296)(h:Ok xs):Ok (x::xs):=fun y hy=>by
 cases hy with
 |head=>exact hx
 |tail _ h'=>exact h y h'
theorem Ok.head{x:Nat}{xs:List Nat}(h:Ok (x::xs)):x<4294967296:=h x (by simp)
theorem Ok.tail{x:Nat}{xs:List Nat}(h:Ok (x::xs)):Ok xs:=fun y hy=>h y (by simp[hy])
theorem Ok.append{xs ys:List Nat}(h:Ok xs)(k:Ok ys):Ok (xs++ys):=fun y hy=>by
 rcases List.mem_append.1 hy with h1|h1
 ·exact h y h1
 ·exact k y h1
theorem Ok.take{xs:List Nat}(h:Ok xs)(n:Nat):Ok (xs.take n):=fun y hy=>h y (List.mem_of_mem_take hy)
theorem Ok.drop{xs:List Nat}(h:Ok xs)(n:Nat):Ok (xs.drop n):=fun y hy=>h y (List.mem_of_mem_drop hy)
theorem Ok.get{xs:List Nat}(h:Ok xs)(i:Nat):xs.getD i 0<4294967296:=by
 rw[List.getD_eq_getElem?_getD];cases hx:xs[i]? with
 |none=>simp
 |some x=>exact h x (List.mem_of_getElem? hx)
theorem Cp(n:Nat):Ok (Ac n):=by
 induction n using Nat.strongRecOn with
 |_ n ih=>
  by_cases h:n=0
  ·subst h;exact Cj
  ·rw[Cu n h];exact Dq (by omega) (ih _ (by omega))
theorem Ad(n:Nat):val (Ac n)=n:=by
 induction n using Nat.strongRecOn with
 |_ n ih=>
  by_cases h:n=0
  ·subst h;rfl
  ·rw[Cu n h,val,ih _ (by omega)];omega
theorem DT(xs ys:List Nat):val (xs++ys)=val xs+4294967296 ^ xs.length*val ys:=by
 induction xs with
 |nil=>simp[val]
 |cons x xs ih=>
  rw[List.cons_append,val,val,ih,List.length_cons,Nat.pow_succ,Nat.mul_add,<-Nat.mul_assoc,Nat.mul_comm 4294967296 (4294967296 ^ xs.length)];omega
theorem Ha(k:Nat):val (List.replicate k 0)=0:=by
 induction k with
 |zero=>rfl
 |succ k ih=>rw[List.replicate_succ,val,ih]
theorem Cf{xs:List Nat}(h:Ok xs):val xs<4294967296 ^ xs.length:=by
 induction xs with
 |nil=>simp[val]
 |cons x xs ih=>
  have h1:=ih h.tail;have h2:=h.head;rw[val,List.length_cons,Nat.pow_succ];have h3:val xs+1<=4294967296 ^ xs.length:=h1;have h4:=Nat.mul_le_mul_left 4294967296 h3;rw[Nat.mul_comm (4294967296 ^ xs.length)];omega
def size:List Nat->Nat
 |[]=>0
 |x::xs=>if size xs=0 then (if x=0 then 0 else 1) else size xs+1
theorem Cx(xs:List Nat):size xs<=xs.length:=by
 induction xs with
 |nil=>simp[size]
 |cons x xs ih=>rw[size,List.length_cons];split<;>(try split)<;>omega
theorem Hd{xs:List Nat}(h:size xs=0):val xs=0:=by
 induction xs with
 |nil=>rfl
 |cons x xs ih=>
  rw[size]at h;split at h
  ·rename_i h0;split at h
   ·rename_i hx;rw[val,ih h0,hx]
   ·omega
  ·omega
theorem LR{xs:List Nat}(h:val xs=0):size xs=0:=by
 induction xs with
 |nil=>rfl
 |cons x xs ih=>
  rw[val]at h;rw[size,ih (by omega),if_pos rfl,if_pos (by omega)]
theorem B8{xs:List Nat}(h:Ok xs):xs.take (size xs)=Ac (val xs):=by
 induction xs with
 |nil=>rfl
 |cons x xs ih=>
  have h1:=ih h.tail;by_cases h0:size xs=0
  ·have hv:=Hd h0;rw[size,if_pos h0,val,hv];split
   ·rename_i hx;subst hx;rfl
   ·rename_i hx;rw[Jw _ _ h.head (by omega)];rfl
  ·have hv:val xs≠0:=fun e=>h0 (LR e)
   rw[size,if_neg h0,val,Jw _ _ h.head (by omega),<-h1];rfl
theorem KY{xs:List Nat}(h:Ok xs):size xs=(Ac (val xs)).length:=by
 rw[<-B8 h,List.length_take,Nat.min_eq_left (Cx xs)]
theorem IZ(xs:List Nat)(n:Nat)(hn:n<=xs.length)(hz:∀i,n<=i->xs.getD i 0=0)(ht:0<n->xs.getD (n-1) 0≠0):size xs=n:=by
 induction xs generalizing n with
 |nil=>simp at hn;subst hn;rfl
 |cons x xs ih=>
  cases n with
  |zero=>
   have h0:=ih 0 (Nat.zero_le _) (fun i _=>by have:=hz (i+1) (Nat.zero_le _);simpa using this) (by omega);have hx:x=0:=by have:=hz 0 (Nat.le_refl _);simpa using this
   rw[size,if_pos h0,if_pos hx]
  |succ n=>
   have h0:=ih n (by simpa using hn) (fun i hi=>by have:=hz (i+1) (by omega);simpa using this) (fun hp=>by
    have:=ht (by omega);obtain⟨m,rfl⟩:∃m,n=m+1:=⟨n-1,by omega⟩
    simpa using this)
   rw[size];split
   ·rename_i h1;have nG:n=0:=by omega
    subst nG;have:=ht (by omega);rw[if_neg (by simpa using this)]
   ·omega
theorem AE{n k:Nat}(h:n<4294967296 ^ k):(Ac n).length<=k:=by
 induction k generalizing n with
 |zero=>have:n=0:=by omega
        subst this;simp[Bb]
 |succ k ih=>
  by_cases h0:n=0
  ·subst h0;simp[Bb]
  ·rw[Cu n h0,List.length_cons];have h1:n / 4294967296<4294967296 ^ k:=by
    rw[Nat.pow_succ,Nat.mul_comm]at h;exact Nat.div_lt_of_lt_mul h
   have:=ih h1;omega
theorem An{xs:List Nat}(h:Ok xs):(Ac (val xs)).length<=xs.length:=AE (Cf h)
theorem Br{n:Nat}:Ac n=[]↔n=0:=by
 constructor
 ·intro h;by_cases h0:n=0
  ·exact h0
  ·rw[Cu n h0]at h;cases h
 ·rintro rfl;rfl
theorem FP(xs:List Nat)(i:Nat)(h:i<xs.length):val (xs.take (i+1))=val (xs.take i)+4294967296 ^ i*xs.getD i 0:=by
 rw[List.take_succ_eq_append_getElem h,DT,List.length_take,Nat.min_eq_left (by omega),List.getD_eq_getElem?_getD,List.getElem?_eq_getElem h];simp[val]
theorem LK(xs:List Nat)(i:Nat)(h:i<xs.length):val (xs.drop i)=xs.getD i 0+4294967296*val (xs.drop (i+1)):=by
 rw[List.drop_eq_getElem_cons h,val,List.getD_eq_getElem?_getD,List.getElem?_eq_getElem h];rfl
theorem Kc(xs:List Nat)(i:Nat)(h:i<=xs.length):val xs=val (xs.take i)+4294967296 ^ i*val (xs.drop i):=by
 have:=DT (xs.take i) (xs.drop i);rw[List.take_append_drop,List.length_take,Nat.min_eq_left h]at this;exact this
theorem BK(ys:List Nat)(y:Nat):val (ys++[y])=val ys+4294967296 ^ ys.length*y:=by
 rw[DT];simp[val]
theorem IY(xs ys:List Nat)(k m c cy:Nat)(hk:k<xs.length)(hl:ys.length=k)(h:val ys+4294967296 ^ k*cy=val (xs.take k)*m+c):
  val (ys++[(cy+xs.getD k 0*m) % 4294967296])+4294967296 ^ (k+1)*((cy+xs.getD k 0*m) / 4294967296)=val (xs.take (k+1))*m+c:=by
 rw[BK,FP xs k hk,hl,Nat.pow_succ,Nat.add_mul,Nat.mul_assoc (4294967296 ^ k) 4294967296,Nat.add_assoc,<-Nat.mul_add,Nat.mod_add_div,Nat.mul_add,Nat.mul_assoc];omega
theorem II{x m:Nat}(hx:x<4294967296)(hm:m<4294967296):x*m<=18446744065119617025:=
 Nat.le_trans (Nat.mul_le_mul (Nat.le_sub_one_of_lt hx) (Nat.le_sub_one_of_lt hm)) (by decide)
theorem Rr(xs qs:List Nat)(k d r:Nat)(hk:k<xs.length)(h:val qs*d+r=val (xs.drop (k+1))):
  val ((r*4294967296+xs.getD k 0) / d::qs)*d+(r*4294967296+xs.getD k 0) % d=val (xs.drop k):=by
 rw[LK xs k hk,<-h,val,Nat.add_mul,Nat.mul_add,Nat.mul_assoc];have:=Nat.div_add_mod' (r*4294967296+xs.getD k 0) d;omega
theorem Uh{r d x:Nat}(hr:r<d)(hx:x<4294967296):(r*4294967296+x) / d<4294967296:=by
 have h1:r*4294967296+x<d*4294967296:=by omega
 exact Nat.div_lt_of_lt_mul h1
theorem K7{q d r n:Nat}(hd:r<d)(h:q*d+r=n):q=n / d/\r=n % d:=by
 have h0:0<d:=by omega
 subst h;refine⟨?_,?_⟩
 ·rw[Nat.add_comm,Nat.add_mul_div_right _ _ h0,Nat.div_eq_of_lt hd,Nat.zero_add]
 ·rw[Nat.add_comm,Nat.add_mul_mod_self_right,Nat.mod_eq_of_lt hd]
theorem Db(xs:List Nat)(i:Nat)(h:xs.length<=i):xs.getD i 0=0:=by
 rw[List.getD_eq_getElem?_getD,List.getElem?_eq_none h];rfl
theorem Bi(xs:List Nat)(i:Nat):val (xs.drop i)=xs.getD i 0+4294967296*val (xs.drop (i+1)):=by
 rcases Nat.lt_or_ge i xs.length with h|h
 ·exact LK xs i h
 ·rw[List.drop_eq_nil_of_le h,List.drop_eq_nil_of_le (by omega),Db xs i h];rfl
theorem Bp(xs:List Nat)(i:Nat):val xs=val (xs.take i)+4294967296 ^ i*val (xs.drop i):=by
 rcases Nat.lt_or_ge i xs.length with h|h
 ·exact Kc xs i (by omega)
 ·rw[List.drop_eq_nil_of_le h,List.take_of_length_le h];simp[val]
theorem Bs(xs:List Nat)(i:Nat):val (xs.take (i+1))=val (xs.take i)+4294967296 ^ i*xs.getD i 0:=by
 rcases Nat.lt_or_ge i xs.length with h|h
 ·exact FP xs i h
 ·rw[List.take_of_length_le (by omega),List.take_of_length_le h,Db xs i h];simp
theorem DW{i j:Nat}(h:i<=j):4294967296 ^ i<=4294967296 ^ j:=Nat.pow_le_pow_right (by omega) h
theorem Fg(i:Nat):0<4294967296 ^ i:=Nat.pow_pos (by omega)
theorem BN{xs:List Nat}(h:Ok xs)(i:Nat):val (xs.take i)<4294967296 ^ i:=
 Nat.lt_of_lt_of_le (Cf (h.take i)) (DW (List.length_take_le _ _))
theorem TH{xs ys:List Nat}(hx:Ok xs)(i:Nat)(h:val (xs.drop i)<val (ys.drop i)):val xs<val ys:=by
 rw[Bp xs i,Bp ys i];have h1:=BN hx i;have h2:=Nat.mul_le_mul_left (4294967296 ^ i) (show val (xs.drop i)+1<=val (ys.drop i) from h);rw[Nat.mul_add,Nat.mul_one]at h2;omega
theorem GP{xs ys:List Nat}(hx:Ok xs)(i:Nat)(h:val (xs.drop (i+1))=val (ys.drop (i+1)))(hlt:xs.getD i 0<ys.getD i 0):val xs<val ys:=
 TH hx i (by rw[Bi xs,Bi ys,h];omega)
theorem MG{xs ys:List Nat}(i:Nat)(h:val (xs.drop (i+1))=val (ys.drop (i+1)))(he:xs.getD i 0=ys.getD i 0):val (xs.drop i)=val (ys.drop i):=by
 rw[Bi xs,Bi ys,h,he]
def BS(a b:Nat):Int:=if a<b then-1 else if b<a then 1 else 0
theorem EX{a b:Nat}(h:a<b):BS a b= -1:=if_pos h
theorem Lr{a b:Nat}(h:b<a):BS a b=1:=by unfold BS;rw[if_neg (by omega),if_pos h]
theorem Ls{a b:Nat}(h:a=b):BS a b=0:=by unfold BS;rw[if_neg (by omega),if_neg (by omega)]
theorem D7{a b:Nat}:BS a b<0↔a<b:=by unfold BS;split<;>(try split)<;>omega
theorem LP {as bs zs:List Nat} {k c z c':Nat} (hl:zs.length=k) (h:val (as.take k)+4294967296 ^ k*c=val zs+val (bs.take k))
  (hz:as.getD k 0+4294967296*c'=z+bs.getD k 0+c):val (as.take (k+1))+4294967296 ^ (k+1)*c'=val (zs++[z])+val (bs.take (k+1)):=by
 rw[Bs,Bs,BK,hl,Nat.pow_succ,Nat.mul_assoc];have h1:=congrArg (4294967296 ^ k*·) hz;simp only[Nat.mul_add]at h1;omega
theorem Om {as bs zs:List Nat} {n c:Nat} (ha:Ok as) (hz:Ok zs) (hn:as.drop n=[]\/val (as.drop n)=0) (hl:zs.length=n) (cp:val bs<=val as)
  (h:val (as.take n)+4294967296 ^ n*c=val zs+val (bs.take n)):val zs=val as-val bs:=by
 have h0:val (as.drop n)=0:=by rcases hn with h1|h1<;>simp[h1,val]
 have h1:=Bp as n;have h2:=Bp bs n;have h3:=BN ha n;have h4:=Cf hz;rw[hl]at h4;rw[h0,Nat.mul_zero]at h1;rcases Nat.eq_zero_or_pos (val (bs.drop n)) with h5|h5
 ·rw[h5,Nat.mul_zero]at h2;rcases Nat.eq_zero_or_pos c with h6|h6
  ·subst h6;omega
  ·have:=Nat.mul_le_mul_left (4294967296 ^ n) h6;omega
 ·have:=Nat.mul_le_mul_left (4294967296 ^ n) h5;omega
theorem JO {as bs zs:List Nat} {k c t:Nat} (hl:zs.length=k) (h:val zs+4294967296 ^ k*c=val (as.take k)+val (bs.take k))
  (ht:t=c+as.getD k 0+bs.getD k 0):val (zs++[t % 4294967296])+4294967296 ^ (k+1)*(t / 4294967296)=val (as.take (k+1))+val (bs.take (k+1)):=by
 rw[Bs,Bs,BK,hl,Nat.pow_succ,Nat.mul_assoc,Nat.add_assoc,<-Nat.mul_add,Nat.mod_add_div,ht,Nat.mul_add,Nat.mul_add];omega
theorem Oh(os:List Nat)(j y:Nat)(h:j<os.length):val (os.set j y)+4294967296 ^ j*os.getD j 0=val os+4294967296 ^ j*y:=by
 induction os generalizing j with
 |nil=>simp at h
 |cons o os ih=>
  cases j with
  |zero=>simp[val];omega
  |succ j=>
   have:=ih j (by simpa using h);simp only[List.set_cons_succ,val,List.getD_cons_succ,Nat.pow_succ];rw[Nat.mul_comm (4294967296 ^ j) 4294967296,Nat.mul_assoc,Nat.mul_assoc];have h1:=congrArg (4294967296*·) this;simp only[Nat.mul_add]at h1;omega
theorem Ok.set{xs:List Nat}(h:Ok xs)(j:Nat){y:Nat}(hy:y<4294967296):Ok (xs.set j y):=fun x hx=>by
 rcases List.mem_or_eq_of_mem_set hx with h1|h1
 ·exact h x h1
 ·omega
theorem RH {os bs:List Nat} {i k c x N t:Nat} (hj:i+k<os.length) (h:val os+4294967296 ^ (i+k)*c=N+4294967296 ^ i*(x*val (bs.take k)))
  (ht:t=c+(x*bs.getD k 0+os.getD (i+k) 0)):
  val (os.set (i+k) (t % 4294967296))+4294967296 ^ (i+(k+1))*(t / 4294967296)=N+4294967296 ^ i*(x*val (bs.take (k+1))):=by
 have h1:=Oh os (i+k) (t % 4294967296) hj;have h2:4294967296 ^ (i+k)*(t % 4294967296)+4294967296 ^ (i+(k+1))*(t / 4294967296)=4294967296 ^ (i+k)*t:=by
  rw[<-Nat.add_assoc,Nat.pow_succ,Nat.mul_assoc,<-Nat.mul_add,Nat.mod_add_div]
 have h3:4294967296 ^ (i+k)*t=4294967296 ^ (i+k)*c+(4294967296 ^ (i+k)*(x*bs.getD k 0)+4294967296 ^ (i+k)*os.getD (i+k) 0):=by
  rw[ht,Nat.mul_add,Nat.mul_add]
 have h4:4294967296 ^ i*(x*val (bs.take (k+1)))=4294967296 ^ i*(x*val (bs.take k))+4294967296 ^ (i+k)*(x*bs.getD k 0):=by
  rw[Bs,Nat.mul_add,Nat.mul_add,Nat.pow_add,Nat.mul_left_comm x,Nat.mul_assoc]
 omega
theorem Tf{os:List Nat}{j c N:Nat}(hj:j<os.length)(h0:os.getD j 0=0)(h:val os+4294967296 ^ j*c=N):val (os.set j c)=N:=by
 have h1:=Oh os j c hj;rw[h0]at h1;omega
theorem In(os:List Nat)(i j y:Nat)(h:i≠j):(os.set i y).getD j 0=os.getD j 0:=by
 rw[List.getD_eq_getElem?_getD,List.getD_eq_getElem?_getD,List.getElem?_set_ne h]
theorem Dk{xs:List Nat}(h:Ok xs){m c:Nat}(hm:m<4294967296)(hc:c<4294967296):(Ac (val xs*m+c)).length<=xs.length+1:=by
 refine AE ?_
 have h1:=Cf h;rw[Nat.pow_succ];have h6:(val xs+1)*4294967296<=4294967296 ^ xs.length*4294967296:=Nat.mul_le_mul_right _ (Nat.succ_le_of_lt h1);have h7:val xs*m<=val xs*4294967295:=Nat.mul_le_mul_left _ (by omega);omega
theorem ID{n:Nat}{ys:List Nat}(h:Ok ys)(hn:n<=val ys):(Ac n).length<=ys.length:=AE (Nat.lt_of_le_of_lt hn (Cf h))
theorem N8{b r l:Nat}(h1:b*l<=r)(h2:r<b*(l+1)):l=r / b:=by
 have hb:0<b:=by
  rcases Nat.eq_zero_or_pos b with h|h
  ·subst h;simp at h2
  ·exact h
 refine(Nat.div_eq_of_lt_le ?_ ?_).symm
 ·rw[Nat.mul_comm];exact h1
 ·rw[Nat.mul_comm];exact h2
theorem Sr{xs qs:List Nat}{k b r:Nat}(h:val qs*b+r=val (xs.drop (k+1))):
  val ((xs.getD k 0+4294967296*r) / b::qs)*b+(xs.getD k 0+4294967296*r) % b=val (xs.drop k):=by
 rw[Bi xs k,<-h,val,Nat.add_mul,Nat.mul_add,Nat.mul_assoc];have:=Nat.div_add_mod' (xs.getD k 0+4294967296*r) b;omega
theorem Uv{r b x:Nat}(hr:r<b)(hx:x<4294967296):(x+4294967296*r) / b<4294967296:=by
 refine Nat.div_lt_of_lt_mul ?_
 have:4294967296*(r+1)<=4294967296*b:=Nat.mul_le_mul_left _ hr;rw[Nat.mul_comm b];omega
theorem Jx{ys:List Nat}{n:Nat}(h:Ok ys)(hn:n<val ys*4294967296):(Ac n).length<=ys.length+1:=by
 refine AE ?_
 rw[Nat.pow_succ];exact Nat.lt_of_lt_of_le hn (Nat.mul_le_mul_right _ (Nat.le_of_lt (Cf h)))
theorem Qq{x r b:Nat}(hr:r<b)(hx:x<4294967296):x+4294967296*r<b*4294967296:=by
 have:4294967296*(r+1)<=4294967296*b:=Nat.mul_le_mul_left _ hr;omega
def UV:Nat->Nat->List UInt8
 |0,_=>[]
 |f+1,n=>if n=0 then [] else UInt8.ofNat (48+n % 10)::UV f (n / 10)
def low(n:Nat):List UInt8:=UV n n
def dec(n:Nat):List UInt8:=if n=0 then [48] else (low n).reverse
def Bu(c:UInt8):Bool:=decide (48<=c.toNat) && decide (c.toNat<=57)
def Bl(l:List UInt8):Nat:=l.foldl (fun n c=>10*n+(c.toNat-48)) 0
theorem NN(l:List UInt8)(c:UInt8):Bl (l++[c])=10*Bl l+(c.toNat-48):=by
 unfold Bl;rw[List.foldl_append];rfl
theorem Jm(l:List UInt8)(k:Nat)(h:k<l.length):Bl (l.take (k+1))=10*Bl (l.take k)+(l[k].toNat-48):=by
 rw[List.take_succ_eq_append_getElem h,NN]
theorem GC(l:List UInt8)(h:l.all Bu=true):Bl l<10 ^ l.length:=by
 have key:∀(l:List UInt8) (n k:Nat),l.all Bu=true->n<10 ^ k->l.foldl (fun n c=>10*n+(c.toNat-48)) n<10 ^ (k+l.length):=by
  intro l
  induction l with
  |nil=>intro n k _ hn;simpa using hn
  |cons c l ih=>
   intro n k ha hn;rw[List.all_cons,Bool.and_eq_true]at ha;have hc:=ha.1;unfold Bu at hc;simp at hc;rw[List.foldl_cons,List.length_cons];have:=ih (10*n+(c.toNat-48)) (k+1) ha.2 (by rw[Nat.pow_succ];omega);rw[show k+1+l.length=k+(l.length+1) by omega]at this;exact this
 have:=key l 0 0 h (by simp)
 simpa [Bl] using this
def IL(l:List UInt8):Nat × Nat:=
 if 20001<l.length then (0,7)
 else if l=[] then (0,6)
 else if l[0]? =some 48/\1<l.length then (0,6)
 else if l.all Bu then (Bl l,0) else (0,6)
theorem QQ(l:List UInt8)(k:Nat)(h:k<l.length):(l.take (k+1)).all Bu=((l.take k).all Bu && Bu l[k]):=by
 rw[List.take_succ_eq_append_getElem h,List.all_append];simp
theorem Ly{l:List UInt8}{k:Nat}(h:k<l.length)(hf:Bu l[k]=false):l.all Bu=false:=by
 rw[List.all_eq_false];exact⟨l[k],List.getElem_mem h,by simp[hf]⟩
theorem MB{a s c n d:Nat}(h:n=a*s+c):10*n+d=a*(10*s)+(10*c+d):=by
 rw[h,Nat.mul_add,Nat.mul_left_comm];omega
theorem JZ{j:Nat}(h:j<=8):10 ^ j<=100000000:=by
 have:=Nat.pow_le_pow_right (show 0<10 by omega) h;exact this
theorem O2{j:Nat}(h:j<=8):(10*10 ^ j=1000000000)↔j=8:=by
 have:j=0\/j=1\/j=2\/j=3\/j=4\/j=5\/j=6\/j=7\/j=8:=by omega
 rcases this with rfl|rfl|rfl|rfl|rfl|rfl|rfl|rfl|rfl<;>simp
theorem J6{a k:Nat}(h:a<10 ^ k):(Ac a).length<=k:=
 AE (Nat.lt_of_lt_of_le h (Nat.pow_le_pow_left (by omega) k))
theorem Hy{l:List UInt8}{k:Nat}(h:(l.take k).all Bu=true)(hk:k<=l.length):Bl (l.take k)<10 ^ k:=by
 have:=GC _ h
 rwa [List.length_take,Nat.min_eq_left hk]at this
theorem P9(b:UInt8):Bu b=true↔48<=b.toNat/\b.toNat<=57:=by unfold Bu;simp
def DD(a r:Nat):Prop:=r*r<=a/\a<(r+1)*(r+1)
theorem Q2{a b:Nat}(h:a*a<b*b):a<b:=by
 rcases Nat.lt_or_ge a b with h1|h1
 ·exact h1
 ·have:=Nat.mul_le_mul h1 h1;omega
theorem DD.uniq{a r r':Nat}(h:DD a r)(h':DD a r'):r=r':=by
 have h1:=Q2 (Nat.lt_of_le_of_lt h.1 h'.2);have h2:=Q2 (Nat.lt_of_le_of_lt h'.1 h.2);omega
theorem DD.sq(r:Nat):DD (r*r) r:=⟨Nat.le_refl _,by rw[Nat.add_mul,Nat.mul_add];omega⟩
theorem DD.rest{a r:Nat}(h:DD a r):a-r*r=0↔a=r*r:=by have:=h.1;omega
theorem M6(s x:Nat):2*(s*x)<=s*s+x*x:=by
 rcases Nat.le_total s x with h|h
 ·obtain⟨d,rfl⟩:=Nat.exists_eq_add_of_le h;simp only[Nat.mul_add,Nat.add_mul];rw[Nat.mul_comm d s];omega
 ·obtain⟨d,rfl⟩:=Nat.exists_eq_add_of_le h;simp only[Nat.mul_add,Nat.add_mul];rw[Nat.mul_comm d x];omega
theorem NO{a x s:Nat}(hx:0<x)(hs:s*s<=a):s<=(x+a / x) / 2:=by
 have h1:2*s<=(a+x*x) / x:=by
  rw[Nat.le_div_iff_mul_le hx];have:=M6 s x;rw[Nat.mul_assoc];omega
 rw[Nat.add_mul_div_right _ _ hx]at h1;omega
theorem Mj{a x:Nat}(hx:0<x)(h:x<=(x+a / x) / 2):x*x<=a:=by
 have h1:x<=a / x:=by omega
 exact(Nat.le_div_iff_mul_le hx).1 h1
theorem NP{a x:Nat}(eV:∀s,s*s<=a->s<=x)(h:x*x<=a):DD a x:=by
 refine⟨h,?_⟩;rcases Nat.lt_or_ge a ((x+1)*(x+1)) with h1|h1
 ·exact h1
 ·have:=eV _ h1;omega
theorem Lf{a x:Nat}(h:a<x*x):∀s,s*s<=a->s<=x:=fun _s hs=>Nat.le_of_lt (Q2 (Nat.lt_of_le_of_lt hs h))
theorem LV{a r i:Nat}(_h1:r*r<=a)(h2:a<(r+2 ^ (i+1))*(r+2 ^ (i+1))):
  ((r+2 ^ i)*(r+2 ^ i)<=a->a<(r+2 ^ i+2 ^ i)*(r+2 ^ i+2 ^ i)):=by
 intro _;rw[Nat.add_assoc,<-Nat.two_mul,Nat.mul_comm 2,<-Nat.pow_succ];exact h2
theorem Se(b:Nat):2 ^ b<=2 ^ (b / 2+1)*2 ^ (b / 2+1):=by
 rw[<-Nat.pow_add];exact Nat.pow_le_pow_right (by omega) (by omega)
theorem Qf(b:Nat):2 ^ b<=2 ^ ((b+1) / 2)*2 ^ ((b+1) / 2):=by
 rw[<-Nat.pow_add];exact Nat.pow_le_pow_right (by omega) (by omega)
theorem DD.zero:DD 0 0:=⟨Nat.le_refl _,by decide⟩
theorem DD.le{a r:Nat}(h:DD a r):r<=a:=by
 rcases Nat.eq_zero_or_pos r with h0|h0
 ·omega
 ·exact Nat.le_trans (Nat.le_mul_of_pos_left r h0) h.1
end Big
end Go.Proofs.YtkoaogkknnelaaaGreatDoor
