set_option linter.unusedVariables false
set_option linter.unusedSimpArgs false
namespace Go.Proofs.YtkoaogkknnelaaaGreatDoor
namespace Big
def val:List Nat->Nat
 |[]=>0
 |x::xs=>x+4294967296*val xs
def Ok(xs:List Nat):Prop:=∀x∈xs,x<4294967296
def Fg:Nat->Nat->List Nat
 |0,_=>[]
 |f+1,n=>if n=0 then [] else n % 4294967296::Fg f (n / 4294967296)
def Ac(n:Nat):List Nat:=Fg n n
theorem PR(f:Nat):∀(g n:Nat),n<=f->n<=g->Fg f n=Fg g n:=by
 induction f with
 |zero=>intro g n h _;have:n=0:=by omega
        subst this;cases g<;>simp[Fg]
 |succ f ih=>
  intro g n hf hg;cases g with
  |zero=>have:n=0:=by omega
         subst this;simp[Fg]
  |succ g=>
   simp only[Fg];split
   ·rfl
   ·rw[ih g (n / 4294967296) (by omega) (by omega)]
theorem Bi:Ac 0=[]:=rfl
theorem Cj(n:Nat)(h:n≠0):Ac n=n % 4294967296::Ac (n / 4294967296):=by
 obtain⟨m,rfl⟩:∃m,n=m+1:=⟨n-1,by omega⟩;unfold Ac;rw[Fg,if_neg h,PR m ((m+1) / 4294967296) _ (by omega) (Nat.le_refl _)]
theorem I5(x n:Nat)(hx:x<4294967296)(h:x+4294967296*n≠0):Ac (x+4294967296*n)=x::Ac n:=by
 rw[Cj _ h];have h1:(x+4294967296*n) % 4294967296=x:=by omega
 have h2:(x+4294967296*n) / 4294967296=n:=by omega
 rw[h1,h2]
theorem B3:Ok []:=fun _ h=>by cases h
theorem C1{x:Nat}{xs:List Nat}(hx:x<4294967296)(h:Ok xs):Ok (x::xs):=fun y hy=>by
 cases hy with
 |head=>exact hx
 |tail _ h'=>exact h y h'
theorem Ok.head{x:Nat}{xs:List Nat}(h:Ok (x::xs)):x<4294967296:=h x (by simp)
theorem Ok.tail{x:Nat}{xs:List Nat}(h:Ok (x::xs)):Ok xs:=fun y hy=>h y (by simp[hy])
theorem Ok.append{xs ys:List Nat}(h:Ok xs)(k:Ok ys):Ok (xs++ys):=fun y hy=>by
 rcases List.mem_append.1 hy with h1|h1
 ·exact h y h1
 ·exact k y h1
theorem Ok.take{xs:List Nat}(h:Ok xs)(n:Nat):Ok (xs.take n):=fun y hy=>h y (List.mem_of_mem_take hy)
theorem Ok.drop{xs:List Nat}(h:Ok xs)(n:Nat):Ok (xs.drop n):=fun y hy=>h y (List.mem_of_mem_drop hy)
theorem Ok.get{xs:List Nat}(h:Ok xs)(i:Nat):xs.getD i 0<4294967296:=by
 rw[List.getD_eq_getElem?_getD];cases hx:xs[i]? with
 |none=>simp
 |some x=>exact h x (List.mem_of_getElem? hx)
theorem Ce(n:Nat):Ok (Ac n):=by
 induction n using Nat.strongRecOn with
 |_ n ih=>
  by_cases h:n=0
  ·subst h;exact B3
  ·rw[Cj n h];exact C1 (by omega) (ih _ (by omega))
theorem Ad(n:Nat):val (Ac n)=n:=by
 induction n using Nat.strongRecOn with
 |_ n ih=>
  by_cases h:n=0
  ·subst h;rfl
  ·rw[Cj n h,val,ih _ (by omega)];omega
theorem DH(xs ys:List Nat):val (xs++ys)=val xs+4294967296 ^ xs.length*val ys:=by
 induction xs with
 |nil=>simp[val]
 |cons x xs ih=>
  rw[List.cons_append,val,val,ih,List.length_cons,Nat.pow_succ,Nat.mul_add,<-Nat.mul_assoc,Nat.mul_comm 4294967296 (4294967296 ^ xs.length)];omega
theorem GH(k:Nat):val (List.replicate k 0)=0:=by
 induction k with
 |zero=>rfl
 |succ k ih=>rw[List.replicate_succ,val,ih]
theorem Ck{xs:List Nat}(h:Ok xs):val xs<4294967296 ^ xs.length:=by
 induction xs with
 |nil=>simp[val]
 |cons x xs ih=>
  have h1:=ih h.tail;have h2:=h.head;rw[val,List.length_cons,Nat.pow_succ];have h3:val xs+1<=4294967296 ^ xs.length:=h1;have h4:=Nat.mul_le_mul_left 4294967296 h3;rw[Nat.mul_comm (4294967296 ^ xs.length)];omega
def size:List Nat->Nat
 |[]=>0
 |x::xs=>if size xs=0 then (if x=0 then 0 else 1) else size xs+1
theorem Cm(xs:List Nat):size xs<=xs.length:=by
 induction xs with
 |nil=>simp[size]
 |cons x xs ih=>rw[size,List.length_cons];split<;>(try split)<;>omega
theorem GK{xs:List Nat}(h:size xs=0):val xs=0:=by
 induction xs with
 |nil=>rfl
 |cons x xs ih=>
  rw[size]at h;split at h
  ·rename_i h0;split at h
   ·rename_i hx;rw[val,ih h0,hx]
   ·omega
  ·omega
theorem Lt{xs:List Nat}(h:val xs=0):size xs=0:=by
 induction xs with
 |nil=>rfl
 |cons x xs ih=>
  rw[val]at h;rw[size,ih (by omega),if_pos rfl,if_pos (by omega)]
theorem BY{xs:List Nat}(h:Ok xs):xs.take (size xs)=Ac (val xs):=by
 induction xs with
 |nil=>rfl
 |cons x xs ih=>
  have h1:=ih h.tail;by_cases h0:size xs=0
  ·have hv:=GK h0;rw[size,if_pos h0,val,hv];split
   ·rename_i hx;subst hx;rfl
   ·rename_i hx;rw[I5 _ _ h.head (by omega)];rfl
  ·have hv:val xs≠0:=fun e=>h0 (Lt e)
   rw[size,if_neg h0,val,I5 _ _ h.head (by omega),<-h1];rfl
theorem Ku{xs:List Nat}(h:Ok xs):size xs=(Ac (val xs)).length:=by
 rw[<-BY h,List.length_take,Nat.min_eq_left (Cm xs)]
theorem IA(xs:List Nat)(n:Nat)(hn:n<=xs.length)(hz:∀i,n<=i->xs.getD i 0=0)(ht:0<n->xs.getD (n-1) 0≠0):size xs=n:=by
 induction xs generalizing n with
 |nil=>simp at hn;subst hn;rfl
 |cons x xs ih=>
  cases n with
  |zero=>
   have h0:=ih 0 (Nat.zero_le _) (fun i _=>by have:=hz (i+1) (Nat.zero_le _);simpa using this) (by omega);have hx:x=0:=by have:=hz 0 (Nat.le_refl _);simpa using this
   rw[size,if_pos h0,if_pos hx]
  |succ n=>
   have h0:=ih n (by simpa using hn) (fun i hi=>by have:=hz (i+1) (by omega);simpa using this) (fun hp=>by
    have:=ht (by omega);obtain⟨m,rfl⟩:∃m,n=m+1:=⟨n-1,by omega⟩
    simpa using this)
   rw[size];split
   ·rename_i h1;have oj:n=0:=by omega
    subst oj;have:=ht (by omega);rw[if_neg (by simpa using this)]
   ·omega
theorem AG{n k:Nat}(h:n<4294967296 ^ k):(Ac n).length<=k:=by
 induction k generalizing n with
 |zero=>have:n=0:=by omega
        subst this;simp[Bi]
 |succ k ih=>
  by_cases h0:n=0
  ·subst h0;simp[Bi]
  ·rw[Cj n h0,List.length_cons];have h1:n / 4294967296<4294967296 ^ k:=by
    rw[Nat.pow_succ,Nat.mul_comm]at h;exact Nat.div_lt_of_lt_mul h
   have:=ih h1;omega
theorem Az{xs:List Nat}(h:Ok xs):(Ac (val xs)).length<=xs.length:=AG (Ck h)
theorem BB{n:Nat}:Ac n=[]↔n=0:=by
 constructor
 ·intro h;by_cases h0:n=0
  ·exact h0
  ·rw[Cj n h0]at h;cases h
 ·rintro rfl;rfl
def UB(xs:List Nat):Prop:=xs=Ac (val xs)
theorem FD(xs:List Nat)(i:Nat)(h:i<xs.length):val (xs.take (i+1))=val (xs.take i)+4294967296 ^ i*xs.getD i 0:=by
 rw[List.take_succ_eq_append_getElem h,DH,List.length_take,Nat.min_eq_left (by omega),List.getD_eq_getElem?_getD,List.getElem?_eq_getElem h];simp[val]
theorem Lk(xs:List Nat)(i:Nat)(h:i<xs.length):val (xs.drop i)=xs.getD i 0+4294967296*val (xs.drop (i+1)):=by
 rw[List.drop_eq_getElem_cons h,val,List.getD_eq_getElem?_getD,List.getElem?_eq_getElem h];rfl
theorem JO(xs:List Nat)(i:Nat)(h:i<=xs.length):val xs=val (xs.take i)+4294967296 ^ i*val (xs.drop i):=by
 have:=DH (xs.take i) (xs.drop i);rw[List.take_append_drop,List.length_take,Nat.min_eq_left h]at this;exact this
theorem BG(ys:List Nat)(y:Nat):val (ys++[y])=val ys+4294967296 ^ ys.length*y:=by
 rw[DH];simp[val]
theorem Iz(xs ys:List Nat)(k m c cy:Nat)(hk:k<xs.length)(hl:ys.length=k)(h:val ys+4294967296 ^ k*cy=val (xs.take k)*m+c):
  val (ys++[(cy+xs.getD k 0*m) % 4294967296])+4294967296 ^ (k+1)*((cy+xs.getD k 0*m) / 4294967296)=val (xs.take (k+1))*m+c:=by
 rw[BG,FD xs k hk,hl,Nat.pow_succ,Nat.add_mul,Nat.mul_assoc (4294967296 ^ k) 4294967296,Nat.add_assoc,<-Nat.mul_add,Nat.mod_add_div,Nat.mul_add,Nat.mul_assoc];omega
theorem Im{x m:Nat}(hx:x<4294967296)(hm:m<4294967296):x*m<=18446744065119617025:=
 Nat.le_trans (Nat.mul_le_mul (Nat.le_sub_one_of_lt hx) (Nat.le_sub_one_of_lt hm)) (by decide)
theorem Q5(xs qs:List Nat)(k d r:Nat)(hk:k<xs.length)(h:val qs*d+r=val (xs.drop (k+1))):
  val ((r*4294967296+xs.getD k 0) / d::qs)*d+(r*4294967296+xs.getD k 0) % d=val (xs.drop k):=by
 rw[Lk xs k hk,<-h,val,Nat.add_mul,Nat.mul_add,Nat.mul_assoc];have:=Nat.div_add_mod' (r*4294967296+xs.getD k 0) d;omega
theorem TG{r d x:Nat}(hr:r<d)(hx:x<4294967296):(r*4294967296+x) / d<4294967296:=by
 have h1:r*4294967296+x<d*4294967296:=by omega
 exact Nat.div_lt_of_lt_mul h1
theorem KD{q d r n:Nat}(hd:r<d)(h:q*d+r=n):q=n / d/\r=n % d:=by
 have h0:0<d:=by omega
 subst h;refine⟨?_,?_⟩
 ·rw[Nat.add_comm,Nat.add_mul_div_right _ _ h0,Nat.div_eq_of_lt hd,Nat.zero_add]
 ·rw[Nat.add_comm,Nat.add_mul_mod_self_right,Nat.mod_eq_of_lt hd]
theorem Di(xs:List Nat)(i:Nat)(h:xs.length<=i):xs.getD i 0=0:=by
 rw[List.getD_eq_getElem?_getD,List.getElem?_eq_none h];rfl
theorem Bj(xs:List Nat)(i:Nat):val (xs.drop i)=xs.getD i 0+4294967296*val (xs.drop (i+1)):=by
 rcases Nat.lt_or_ge i xs.length with h|h
 ·exact Lk xs i h
 ·rw[List.drop_eq_nil_of_le h,List.drop_eq_nil_of_le (by omega),Di xs i h];rfl
theorem Bo(xs:List Nat)(i:Nat):val xs=val (xs.take i)+4294967296 ^ i*val (xs.drop i):=by
 rcases Nat.lt_or_ge i xs.length with h|h
 ·exact JO xs i (by omega)
 ·rw[List.drop_eq_nil_of_le h,List.take_of_length_le h];simp[val]
theorem Bn(xs:List Nat)(i:Nat):val (xs.take (i+1))=val (xs.take i)+4294967296 ^ i*xs.getD i 0:=by
 rcases Nat.lt_or_ge i xs.length with h|h
 ·exact FD xs i h
 ·rw[List.take_of_length_le (by omega),List.take_of_length_le h,Di xs i h];simp
theorem DL{i j:Nat}(h:i<=j):4294967296 ^ i<=4294967296 ^ j:=Nat.pow_le_pow_right (by omega) h
theorem E7(i:Nat):0<4294967296 ^ i:=Nat.pow_pos (by omega)
theorem BM{xs:List Nat}(h:Ok xs)(i:Nat):val (xs.take i)<4294967296 ^ i:=
 Nat.lt_of_lt_of_le (Ck (h.take i)) (DL (List.length_take_le _ _))
theorem Te{xs ys:List Nat}(hx:Ok xs)(i:Nat)(h:val (xs.drop i)<val (ys.drop i)):val xs<val ys:=by
 rw[Bo xs i,Bo ys i];have h1:=BM hx i;have h2:=Nat.mul_le_mul_left (4294967296 ^ i) (show val (xs.drop i)+1<=val (ys.drop i) from h);rw[Nat.mul_add,Nat.mul_one]at h2;omega
theorem Gu{xs ys:List Nat}(hx:Ok xs)(i:Nat)(h:val (xs.drop (i+1))=val (ys.drop (i+1)))(hlt:xs.getD i 0<ys.getD i 0):val xs<val ys:=
 Te hx i (by rw[Bj xs,Bj ys,h];omega)
theorem Mo{xs ys:List Nat}(i:Nat)(h:val (xs.drop (i+1))=val (ys.drop (i+1)))(he:xs.getD i 0=ys.getD i 0):val (xs.drop i)=val (ys.drop i):=by
 rw[Bj xs,Bj ys,h,he]
def BQ(a b:Nat):Int:=if a<b then-1 else if b<a then 1 else 0
theorem EO{a b:Nat}(h:a<b):BQ a b= -1:=if_pos h
theorem K3{a b:Nat}(h:b<a):BQ a b=1:=by unfold BQ;rw[if_neg (by omega),if_pos h]
theorem K4{a b:Nat}(h:a=b):BQ a b=0:=by unfold BQ;rw[if_neg (by omega),if_neg (by omega)]
theorem DQ{a b:Nat}:BQ a b<0↔a<b:=by unfold BQ;split<;>(try split)<;>omega
theorem Lr {as bs zs:List Nat} {k c z c':Nat} (hl:zs.length=k) (h:val (as.take k)+4294967296 ^ k*c=val zs+val (bs.take k))
  (hz:as.getD k 0+4294967296*c'=z+bs.getD k 0+c):val (as.take (k+1))+4294967296 ^ (k+1)*c'=val (zs++[z])+val (bs.take (k+1)):=by
 rw[Bn,Bn,BG,hl,Nat.pow_succ,Nat.mul_assoc];have h1:=congrArg (4294967296 ^ k*·) hz;simp only[Nat.mul_add]at h1;omega
theorem N7 {as bs zs:List Nat} {n c:Nat} (ha:Ok as) (hz:Ok zs) (hn:as.drop n=[]\/val (as.drop n)=0) (hl:zs.length=n) (cx:val bs<=val as)
  (h:val (as.take n)+4294967296 ^ n*c=val zs+val (bs.take n)):val zs=val as-val bs:=by
 have h0:val (as.drop n)=0:=by rcases hn with h1|h1<;>simp[h1,val]
 have h1:=Bo as n;have h2:=Bo bs n;have h3:=BM ha n;have h4:=Ck hz;rw[hl]at h4;rw[h0,Nat.mul_zero]at h1;rcases Nat.eq_zero_or_pos (val (bs.drop n)) with h5|h5
 ·rw[h5,Nat.mul_zero]at h2;rcases Nat.eq_zero_or_pos c with h6|h6
  ·subst h6;omega
  ·have:=Nat.mul_le_mul_left (4294967296 ^ n) h6;omega
 ·have:=Nat.mul_le_mul_left (4294967296 ^ n) h5;omega
theorem Jo {as bs zs:List Nat} {k c t:Nat} (hl:zs.length=k) (h:val zs+4294967296 ^ k*c=val (as.take k)+val (bs.take k))
  (ht:t=c+as.getD k 0+bs.getD k 0):val (zs++[t % 4294967296])+4294967296 ^ (k+1)*(t / 4294967296)=val (as.take (k+1))+val (bs.take (k+1)):=by
 rw[Bn,Bn,BG,hl,Nat.pow_succ,Nat.mul_assoc,Nat.add_assoc,<-Nat.mul_add,Nat.mod_add_div,ht,Nat.mul_add,Nat.mul_add];omega
theorem N3(os:List Nat)(j y:Nat)(h:j<os.length):val (os.set j y)+4294967296 ^ j*os.getD j 0=val os+4294967296 ^ j*y:=by
 induction os generalizing j with
 |nil=>simp at h
 |cons o os ih=>
  cases j with
  |zero=>simp[val];omega
  |succ j=>
   have:=ih j (by simpa using h);simp only[List.set_cons_succ,val,List.getD_cons_succ,Nat.pow_succ];rw[Nat.mul_comm (4294967296 ^ j) 4294967296,Nat.mul_assoc,Nat.mul_assoc];have h1:=congrArg (4294967296*·) this;simp only[Nat.mul_add]at h1;omega
theorem Ok.set{xs:List Nat}(h:Ok xs)(j:Nat){y:Nat}(hy:y<4294967296):Ok (xs.set j y):=fun x hx=>by
 rcases List.mem_or_eq_of_mem_set hx with h1|h1
 ·exact h x h1
 ·omega
theorem Ri {os bs:List Nat} {i k c x N t:Nat} (hj:i+k<os.length) (h:val os+4294967296 ^ (i+k)*c=N+4294967296 ^ i*(x*val (bs.take k)))
  (ht:t=c+(x*bs.getD k 0+os.getD (i+k) 0)):
  val (os.set (i+k) (t % 4294967296))+4294967296 ^ (i+(k+1))*(t / 4294967296)=N+4294967296 ^ i*(x*val (bs.take (k+1))):=by
 have h1:=N3 os (i+k) (t % 4294967296) hj;have h2:4294967296 ^ (i+k)*(t % 4294967296)+4294967296 ^ (i+(k+1))*(t / 4294967296)=4294967296 ^ (i+k)*t:=by
  rw[<-Nat.add_assoc,Nat.pow_succ,Nat.mul_assoc,<-Nat.mul_add,Nat.mod_add_div]
 have h3:4294967296 ^ (i+k)*t=4294967296 ^ (i+k)*c+(4294967296 ^ (i+k)*(x*bs.getD k 0)+4294967296 ^ (i+k)*os.getD (i+k) 0):=by
  rw[ht,Nat.mul_add,Nat.mul_add]
 have h4:4294967296 ^ i*(x*val (bs.take (k+1)))=4294967296 ^ i*(x*val (bs.take k))+4294967296 ^ (i+k)*(x*bs.getD k 0):=by
  rw[Bn,Nat.mul_add,Nat.mul_add,Nat.pow_add,Nat.mul_left_comm x,Nat.mul_assoc]
 omega
theorem SK{os:List Nat}{j c N:Nat}(hj:j<os.length)(h0:os.getD j 0=0)(h:val os+4294967296 ^ j*c=N):val (os.set j c)=N:=by
 have h1:=N3 os j c hj;rw[h0]at h1;omega
theorem Hz(os:List Nat)(i j y:Nat)(h:i≠j):(os.set i y).getD j 0=os.getD j 0:=by
 rw[List.getD_eq_getElem?_getD,List.getD_eq_getElem?_getD,List.getElem?_set_ne h]
theorem Db{xs:List Nat}(h:Ok xs){m c:Nat}(hm:m<4294967296)(hc:c<4294967296):(Ac (val xs*m+c)).length<=xs.length+1:=by
 refine AG ?_
 have h1:=Ck h;rw[Nat.pow_succ];have h6:(val xs+1)*4294967296<=4294967296 ^ xs.length*4294967296:=Nat.mul_le_mul_right _ (Nat.succ_le_of_lt h1);have h7:val xs*m<=val xs*4294967295:=Nat.mul_le_mul_left _ (by omega);omega
theorem Ie{n:Nat}{ys:List Nat}(h:Ok ys)(hn:n<=val ys):(Ac n).length<=ys.length:=AG (Nat.lt_of_le_of_lt hn (Ck h))
theorem NT{b r l:Nat}(h1:b*l<=r)(h2:r<b*(l+1)):l=r / b:=by
 have hb:0<b:=by
  rcases Nat.eq_zero_or_pos b with h|h
  ·subst h;simp at h2
  ·exact h
 refine(Nat.div_eq_of_lt_le ?_ ?_).symm
 ·rw[Nat.mul_comm];exact h1
 ·rw[Nat.mul_comm];exact h2
theorem RQ{xs qs:List Nat}{k b r:Nat}(h:val qs*b+r=val (xs.drop (k+1))):
  val ((xs.getD k 0+4294967296*r) / b::qs)*b+(xs.getD k 0+4294967296*r) % b=val (xs.drop k):=by
 rw[Bj xs k,<-h,val,Nat.add_mul,Nat.mul_add,Nat.mul_assoc];have:=Nat.div_add_mod' (xs.getD k 0+4294967296*r) b;omega
theorem TP{r b x:Nat}(hr:r<b)(hx:x<4294967296):(x+4294967296*r) / b<4294967296:=by
 refine Nat.div_lt_of_lt_mul ?_
 have:4294967296*(r+1)<=4294967296*b:=Nat.mul_le_mul_left _ hr;rw[Nat.mul_comm b];omega
theorem I6{ys:List Nat}{n:Nat}(h:Ok ys)(hn:n<val ys*4294967296):(Ac n).length<=ys.length+1:=by
 refine AG ?_
 rw[Nat.pow_succ];exact Nat.lt_of_lt_of_le hn (Nat.mul_le_mul_right _ (Nat.le_of_lt (Ck h)))
theorem Qg{x r b:Nat}(hr:r<b)(hx:x<4294967296):x+4294967296*r<b*4294967296:=by
 have:4294967296*(r+1)<=4294967296*b:=Nat.mul_le_mul_left _ hr;omega
def L8:Nat->Nat->List UInt8
 |0,_=>[]
 |f+1,n=>if n=0 then [] else UInt8.ofNat (48+n % 10)::L8 f (n / 10)
def low(n:Nat):List UInt8:=L8 n n
def dec(n:Nat):List UInt8:=if n=0 then [48] else (low n).reverse
theorem SP(f:Nat):∀(g n:Nat),n<=f->n<=g->L8 f n=L8 g n:=by
 induction f with
 |zero=>intro g n h _;have:n=0:=by omega
        subst this;cases g<;>simp[L8]
 |succ f ih=>
  intro g n hf hg;cases g with
  |zero=>have:n=0:=by omega
         subst this;simp[L8]
  |succ g=>
   simp only[L8];split
   ·rfl
   ·rw[ih g (n / 10) (by omega) (by omega)]
theorem SO(n:Nat)(h:n≠0):low n=UInt8.ofNat (48+n % 10)::low (n / 10):=by
 obtain⟨m,rfl⟩:∃m,n=m+1:=⟨n-1,by omega⟩;unfold low;rw[L8,if_neg h,SP m ((m+1) / 10) _ (by omega) (Nat.le_refl _)]
theorem PN(q r i:Nat)(hi:i<9)(hr:r<10 ^ (9-i))(h:q≠0\/r≠0):
  low (q*10 ^ (9-i)+r)=UInt8.ofNat (48+r % 10)::low (q*10 ^ (9-(i+1))+r / 10)/\r / 10<10 ^ (9-(i+1)):=by
 obtain⟨j,hj⟩:∃j,9-i=j+1:=⟨9-i-1,by omega⟩;have pe:9-(i+1)=j:=by omega
 rw[pe,hj,Nat.pow_succ];rw[hj,Nat.pow_succ]at hr;have hne:q*(10 ^ j*10)+r≠0:=by
  rcases h with h|h
  ·have:0<q*(10 ^ j*10):=Nat.mul_pos (by omega) (Nat.mul_pos (Nat.pow_pos (by omega)) (by omega));omega
  ·omega
 rw[SO _ hne,<-Nat.mul_assoc];have h1:(q*10 ^ j*10+r) % 10=r % 10:=by omega
 have h2:(q*10 ^ j*10+r) / 10=q*10 ^ j+r / 10:=by omega
 rw[h1,h2];exact⟨rfl,by omega⟩
theorem P4(q r:Nat)(hr:r<10 ^ (9-9)):q*10 ^ (9-9)+r=q:=by
 simp at hr;subst hr;simp
def Bk(c:UInt8):Bool:=decide (48<=c.toNat) && decide (c.toNat<=57)
def Bd(l:List UInt8):Nat:=l.foldl (fun n c=>10*n+(c.toNat-48)) 0
theorem Nt(l:List UInt8)(c:UInt8):Bd (l++[c])=10*Bd l+(c.toNat-48):=by
 unfold Bd;rw[List.foldl_append];rfl
theorem IX(l:List UInt8)(k:Nat)(h:k<l.length):Bd (l.take (k+1))=10*Bd (l.take k)+(l[k].toNat-48):=by
 rw[List.take_succ_eq_append_getElem h,Nt]
theorem Gg(l:List UInt8)(h:l.all Bk=true):Bd l<10 ^ l.length:=by
 have key:∀(l:List UInt8) (n k:Nat),l.all Bk=true->n<10 ^ k->l.foldl (fun n c=>10*n+(c.toNat-48)) n<10 ^ (k+l.length):=by
  intro l
  induction l with
  |nil=>intro n k _ hn;simpa using hn
  |cons c l ih=>
   intro n k ha hn;rw[List.all_cons,Bool.and_eq_true]at ha;have hc:=ha.1;unfold Bk at hc;simp at hc;rw[List.foldl_cons,List.length_cons];have:=ih (10*n+(c.toNat-48)) (k+1) ha.2 (by rw[Nat.pow_succ];omega);rw[show k+1+l.length=k+(l.length+1) by omega]at this;exact this
 have:=key l 0 0 h (by simp)
 simpa [Bd] using this
def In(l:List UInt8):Nat × Nat:=
 if 20001<l.length then (0,7)
 else if l=[] then (0,6)
 else if l[0]? =some 48/\1<l.length then (0,6)
 else if l.all Bk then (Bd l,0) else (0,6)
theorem Qy(l:List UInt8)(k:Nat)(h:k<l.length):(l.take (k+1)).all Bk=((l.take k).all Bk && Bk l[k]):=by
 rw[List.take_succ_eq_append_getElem h,List.all_append];simp
theorem K9{l:List UInt8}{k:Nat}(h:k<l.length)(hf:Bk l[k]=false):l.all Bk=false:=by
 rw[List.all_eq_false];exact⟨l[k],List.getElem_mem h,by simp[hf]⟩
theorem Mh{a s c n d:Nat}(h:n=a*s+c):10*n+d=a*(10*s)+(10*c+d):=by
 rw[h,Nat.mul_add,Nat.mul_left_comm];omega
theorem Jz{j:Nat}(h:j<=8):10 ^ j<=100000000:=by
 have:=Nat.pow_le_pow_right (show 0<10 by omega) h;exact this
theorem ON{j:Nat}(h:j<=8):(10*10 ^ j=1000000000)↔j=8:=by
 have:j=0\/j=1\/j=2\/j=3\/j=4\/j=5\/j=6\/j=7\/j=8:=by omega
 rcases this with rfl|rfl|rfl|rfl|rfl|rfl|rfl|rfl|rfl<;>simp
theorem JH{a k:Nat}(h:a<10 ^ k):(Ac a).length<=k:=
 AG (Nat.lt_of_lt_of_le h (Nat.pow_le_pow_left (by omega) k))
theorem He{l:List UInt8}{k:Nat}(h:(l.take k).all Bk=true)(hk:k<=l.length):Bd (l.take k)<10 ^ k:=by
 have:=Gg _ h
 rwa [List.length_take,Nat.min_eq_left hk]at this
theorem PX(b:UInt8):Bk b=true↔48<=b.toNat/\b.toNat<=57:=by unfold Bk;simp
def DU(a r:Nat):Prop:=r*r<=a/\a<(r+1)*(r+1)
theorem QJ{a b:Nat}(h:a*a<b*b):a<b:=by
 rcases Nat.lt_or_ge a b with h1|h1
 ·exact h1
 ·have:=Nat.mul_le_mul h1 h1;omega
theorem DU.uniq{a r r':Nat}(h:DU a r)(h':DU a r'):r=r':=by
 have h1:=QJ (Nat.lt_of_le_of_lt h.1 h'.2);have h2:=QJ (Nat.lt_of_le_of_lt h'.1 h.2);omega
theorem DU.sq(r:Nat):DU (r*r) r:=⟨Nat.le_refl _,by rw[Nat.add_mul,Nat.mul_add];omega⟩
theorem DU.rest{a r:Nat}(h:DU a r):a-r*r=0↔a=r*r:=by have:=h.1;omega
theorem MM(s x:Nat):2*(s*x)<=s*s+x*x:=by
 rcases Nat.le_total s x with h|h
 ·obtain⟨d,rfl⟩:=Nat.exists_eq_add_of_le h;simp only[Nat.mul_add,Nat.add_mul];rw[Nat.mul_comm d s];omega
 ·obtain⟨d,rfl⟩:=Nat.exists_eq_add_of_le h;simp only[Nat.mul_add,Nat.add_mul];rw[Nat.mul_comm d x];omega
theorem Nu{a x s:Nat}(hx:0<x)(hs:s*s<=a):s<=(x+a / x) / 2:=by
 have h1:2*s<=(a+x*x) / x:=by
  rw[Nat.le_div_iff_mul_le hx];have:=MM s x;rw[Nat.mul_assoc];omega
 rw[Nat.add_mul_div_right _ _ hx]at h1;omega
theorem LX{a x:Nat}(hx:0<x)(h:x<=(x+a / x) / 2):x*x<=a:=by
 have h1:x<=a / x:=by omega
 exact(Nat.le_div_iff_mul_le hx).1 h1
theorem Nv{a x:Nat}(ev:∀s,s*s<=a->s<=x)(h:x*x<=a):DU a x:=by
 refine⟨h,?_⟩;rcases Nat.lt_or_ge a ((x+1)*(x+1)) with h1|h1
 ·exact h1
 ·have:=ev _ h1;omega
theorem KS{a x:Nat}(h:a<x*x):∀s,s*s<=a->s<=x:=fun _s hs=>Nat.le_of_lt (QJ (Nat.lt_of_le_of_lt hs h))
theorem P3(b:Nat):2 ^ b<=2 ^ ((b+1) / 2)*2 ^ ((b+1) / 2):=by
 rw[<-Nat.pow_add];exact Nat.pow_le_pow_right (by omega) (by omega)
theorem DU.zero:DU 0 0:=⟨Nat.le_refl _,by decide⟩
theorem DU.le{a r:Nat}(h:DU a r):r<=a:=by
 rcases Nat.eq_zero_or_pos r with h0|h0
 ·omega
 ·exact Nat.le_trans (Nat.le_mul_of_pos_left r h0) h.1
end Big
end Go.Proofs.YtkoaogkknnelaaaGreatDoor
