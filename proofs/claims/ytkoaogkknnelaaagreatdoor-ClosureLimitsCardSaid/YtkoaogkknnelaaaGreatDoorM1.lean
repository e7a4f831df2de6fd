set_option linter.unusedVariables false
set_option linter.unusedSimpArgs false
namespace Go.Proofs.YtkoaogkknnelaaaGreatDoor
namespace Big
def val:List Nat->Nat
 |[]=>0
 |x::xs=>x+4294967296*val xs
def Ok(xs:List Nat):Prop:=∀x∈xs,x<4294967296
def FR:Nat->Nat->List Nat
 |0,_=>[]
 |f+1,n=>if n=0 then [] else n % 4294967296::FR f (n / 4294967296)
def Af(n:Nat):List Nat:=FR n n
theorem Qf(f:Nat):∀(g n:Nat),n<=f->n<=g->FR f n=FR g n:=by
 induction f with
 |zero=>intro g n h _;have:n=0:=by omega
        subst this;cases g<;>simp[FR]
 |succ f ih=>
  intro g n hf hg;cases g with
  |zero=>have:n=0:=by omega
         subst this;simp[FR]
  |succ g=>
   simp only[FR];split
   ·rfl
   ·rw[ih g (n / 4294967296) (by omega) (by omega)]
theorem Da:Af 0=[]:=rfl
theorem CJ(n:Nat)(h:n≠0):Af n=n % 4294967296::Af (n / 4294967296):=by
 obtain⟨m,rfl⟩:∃m,n=m+1:=⟨n-1,by omega⟩;unfold Af;rw[FR,if_neg h,Qf m ((m+1) / 4294967296) _ (by omega) (Nat.le_refl _)]
theorem JG(x n:Nat)(hx:x<4294967296)(h:x+4294967296*n≠0):Af (x+4294967296*n)=x::Af n:=by
 rw[CJ _ h];have h1:(x+4294967296*n) % 4294967296=x:=by omega
 have h2:(x+4294967296*n) / 4294967296=n:=by omega
 rw[h1,h2]
theorem Cx:Ok []:=fun _ h=>by cases h
theorem Du{x:Nat}{xs:List Nat}(hx:x<4294967296)(h:Ok xs):Ok (x::xs):=fun y hy=>by
 cases hy with
 |head=>exact hx
 |tail _ h'=>exact h y h'
theorem Ok.head{x:Nat}{xs:List Nat}(h:Ok (x::xs)):x<4294967296:=h x (by simp)
theorem Ok.tail{x:Nat}{xs:List Nat}(h:Ok (x::xs)):Ok xs:=fun y hy=>h y (by simp[hy])
theorem Ok.append{xs ys:List Nat}(h:Ok xs)(k:Ok ys):Ok (xs++ys):=fun y hy=>by
 rcases List.mem_append.1 hy with h1|h1
 ·exact h y h1
 ·exact k y h1
theorem Ok.take{xs:List Nat}(h:Ok xs)(n:Nat):Ok (xs.take n):=fun y hy=>h y (List.mem_of_mem_take hy)
theorem Ok.drop{xs:List Nat}(h:Ok xs)(n:Nat):Ok (xs.drop n):=fun y hy=>h y (List.mem_of_mem_drop hy)
theorem Ok.get{xs:List Nat}(h:Ok xs)(i:Nat):xs.getD i 0<4294967296:=by
 rw[List.getD_eq_getElem?_getD];cases hx:xs[i]? with
 |none=>simp
 |some x=>exact h x (List.mem_of_getElem? hx)
theorem Eu(n:Nat):Ok (Af n):=by
 induction n using Nat.strongRecOn with
 |_ n ih=>
  by_cases h:n=0
  ·subst h;exact Cx
  ·rw[CJ n h];exact Du (by omega) (ih _ (by omega))
theorem Ah(n:Nat):val (Af n)=n:=by
 induction n using Nat.strongRecOn with
 |_ n ih=>
  by_cases h:n=0
  ·subst h;rfl
  ·rw[CJ n h,val,ih _ (by omega)];omega
theorem Eo(xs ys:List Nat):val (xs++ys)=val xs+4294967296 ^ xs.length*val ys:=by
 induction xs with
 |nil=>simp[val]
 |cons x xs ih=>
  rw[List.cons_append,val,val,ih,List.length_cons,Nat.pow_succ,Nat.mul_add,<-Nat.mul_assoc,Nat.mul_comm 4294967296 (4294967296 ^ xs.length)];omega
theorem Pl(k:Nat):val (List.replicate k 0)=0:=by
 induction k with
 |zero=>rfl
 |succ k ih=>rw[List.replicate_succ,val,ih]
theorem DC{xs:List Nat}(h:Ok xs):val xs<4294967296 ^ xs.length:=by
 induction xs with
 |nil=>simp[val]
 |cons x xs ih=>
  have h1:=ih h.tail;have h2:=h.head;rw[val,List.length_cons,Nat.pow_succ];have h3:val xs+1<=4294967296 ^ xs.length:=h1;have h4:=Nat.mul_le_mul_left 4294967296 h3;rw[Nat.mul_comm (4294967296 ^ xs.length)];omega
def size:List Nat->Nat
 |[]=>0
 |x::xs=>if size xs=0 then (if x=0 then 0 else 1) else size xs+1
theorem size_le(xs:List Nat):size xs<=xs.length:=by
 induction xs with
 |nil=>simp[size]
 |cons x xs ih=>rw[size,List.length_cons];split<;>(try split)<;>omega
theorem Ht{xs:List Nat}(h:size xs=0):val xs=0:=by
 induction xs with
 |nil=>rfl
 |cons x xs ih=>
  rw[size]at h;split at h
  ·rename_i h0;split at h
   ·rename_i hx;rw[val,ih h0,hx]
   ·omega
  ·omega
theorem Mb{xs:List Nat}(h:val xs=0):size xs=0:=by
 induction xs with
 |nil=>rfl
 |cons x xs ih=>
  rw[val]at h;rw[size,ih (by omega),if_pos rfl,if_pos (by omega)]
theorem DD{xs:List Nat}(h:Ok xs):xs.take (size xs)=Af (val xs):=by
 induction xs with
 |nil=>rfl
 |cons x xs ih=>
  have h1:=ih h.tail;by_cases h0:size xs=0
  ·have hv:=Ht h0;rw[size,if_pos h0,val,hv];split
   ·rename_i hx;subst hx;rfl
   ·rename_i hx;rw[JG _ _ h.head (by omega)];rfl
  ·have hv:val xs≠0:=fun e=>h0 (Mb e)
   rw[size,if_neg h0,val,JG _ _ h.head (by omega),<-h1];rfl
theorem Lm{xs:List Nat}(h:Ok xs):size xs=(Af (val xs)).length:=by
 rw[<-DD h,List.length_take,Nat.min_eq_left (size_le xs)]
theorem Jb(xs:List Nat)(n:Nat)(hn:n<=xs.length)(hz:∀i,n<=i->xs.getD i 0=0)(ht:0<n->xs.getD (n-1) 0≠0):size xs=n:=by
 induction xs generalizing n with
 |nil=>simp at hn;subst hn;rfl
 |cons x xs ih=>
  cases n with
  |zero=>
   have h0:=ih 0 (Nat.zero_le _) (fun i _=>by have:=hz (i+1) (Nat.zero_le _);simpa using this) (by omega);have hx:x=0:=by have:=hz 0 (Nat.le_refl _);simpa using this
   rw[size,if_pos h0,if_pos hx]
  |succ n=>
   have h0:=ih n (by simpa using hn) (fun i hi=>by have:=hz (i+1) (by omega);simpa using this) (fun hp=>by
    have:=ht (by omega);obtain⟨m,rfl⟩:∃m,n=m+1:=⟨n-1,by omega⟩
    simpa using this)
   rw[size];split
   ·rename_i h1;have hn0:n=0:=by omega
    subst hn0;have:=ht (by omega);rw[if_neg (by simpa using this)]
   ·omega
theorem Bg{n k:Nat}(h:n<4294967296 ^ k):(Af n).length<=k:=by
 induction k generalizing n with
 |zero=>have:n=0:=by omega
        subst this;simp[Da]
 |succ k ih=>
  by_cases h0:n=0
  ·subst h0;simp[Da]
  ·rw[CJ n h0,List.length_cons];have h1:n / 4294967296<4294967296 ^ k:=by
    rw[Nat.pow_succ,Nat.mul_comm]at h;exact Nat.div_lt_of_lt_mul h
   have:=ih h1;omega
theorem AH{xs:List Nat}(h:Ok xs):(Af (val xs)).length<=xs.length:=Bg (DC h)
theorem Ef{n:Nat}:Af n=[]↔n=0:=by
 constructor
 ·intro h;by_cases h0:n=0
  ·exact h0
  ·rw[CJ n h0]at h;cases h
 ·rintro rfl;rfl
def T5(xs:List Nat):Prop:=xs=Af (val xs)
theorem Gq(xs:List Nat)(i:Nat)(h:i<xs.length):val (xs.take (i+1))=val (xs.take i)+4294967296 ^ i*xs.getD i 0:=by
 rw[List.take_succ_eq_append_getElem h,Eo,List.length_take,Nat.min_eq_left (by omega),List.getD_eq_getElem?_getD,List.getElem?_eq_getElem h];simp[val]
theorem L1(xs:List Nat)(i:Nat)(h:i<xs.length):val (xs.drop i)=xs.getD i 0+4294967296*val (xs.drop (i+1)):=by
 rw[List.drop_eq_getElem_cons h,val,List.getD_eq_getElem?_getD,List.getElem?_eq_getElem h];rfl
theorem Ku(xs:List Nat)(i:Nat)(h:i<=xs.length):val xs=val (xs.take i)+4294967296 ^ i*val (xs.drop i):=by
 have:=Eo (xs.take i) (xs.drop i);rw[List.take_append_drop,List.length_take,Nat.min_eq_left h]at this;exact this
theorem Cm(ys:List Nat)(y:Nat):val (ys++[y])=val ys+4294967296 ^ ys.length*y:=by
 rw[Eo];simp[val]
theorem I8(xs ys:List Nat)(k m c cy:Nat)(hk:k<xs.length)(hl:ys.length=k)(h:val ys+4294967296 ^ k*cy=val (xs.take k)*m+c):
  val (ys++[(cy+xs.getD k 0*m) % 4294967296])+4294967296 ^ (k+1)*((cy+xs.getD k 0*m) / 4294967296)=val (xs.take (k+1))*m+c:=by
 rw[Cm,Gq xs k hk,hl,Nat.pow_succ,Nat.add_mul,Nat.mul_assoc (4294967296 ^ k) 4294967296,Nat.add_assoc,<-Nat.mul_add,Nat.mod_add_div,Nat.mul_add,Nat.mul_assoc];omega
theorem IU{x m:Nat}(hx:x<4294967296)(hm:m<4294967296):x*m<=18446744065119617025:=
 Nat.le_trans (Nat.mul_le_mul (Nat.le_sub_one_of_lt hx) (Nat.le_sub_one_of_lt hm)) (by decide)
theorem Rj(xs qs:List Nat)(k d r:Nat)(hk:k<xs.length)(h:val qs*d+r=val (xs.drop (k+1))):
  val ((r*4294967296+xs.getD k 0) / d::qs)*d+(r*4294967296+xs.getD k 0) % d=val (xs.drop k):=by
 rw[L1 xs k hk,<-h,val,Nat.add_mul,Nat.mul_add,Nat.mul_assoc];have:=Nat.div_add_mod' (r*4294967296+xs.getD k 0) d;omega
theorem Tg{r d x:Nat}(hr:r<d)(hx:x<4294967296):(r*4294967296+x) / d<4294967296:=by
 have h1:r*4294967296+x<d*4294967296:=by omega
 exact Nat.div_lt_of_lt_mul h1
theorem Lv{q d r n:Nat}(hd:r<d)(h:q*d+r=n):q=n / d/\r=n % d:=by
 have h0:0<d:=by omega
 subst h;refine⟨?_,?_⟩
 ·rw[Nat.add_comm,Nat.add_mul_div_right _ _ h0,Nat.div_eq_of_lt hd,Nat.zero_add]
 ·rw[Nat.add_comm,Nat.add_mul_mod_self_right,Nat.mod_eq_of_lt hd]
theorem LL(xs:List Nat)(i:Nat)(h:xs.length<=i):xs.getD i 0=0:=by
 rw[List.getD_eq_getElem?_getD,List.getElem?_eq_none h];rfl
theorem Bo(xs:List Nat)(i:Nat):val (xs.drop i)=xs.getD i 0+4294967296*val (xs.drop (i+1)):=by
 rcases Nat.lt_or_ge i xs.length with h|h
 ·exact L1 xs i h
 ·rw[List.drop_eq_nil_of_le h,List.drop_eq_nil_of_le (by omega),LL xs i h];rfl
theorem BF(xs:List Nat)(i:Nat):val xs=val (xs.take i)+4294967296 ^ i*val (xs.drop i):=by
 rcases Nat.lt_or_ge i xs.length with h|h
 ·exact Ku xs i (by omega)
 ·rw[List.drop_eq_nil_of_le h,List.take_of_length_le h];simp[val]
theorem Ca(xs:List Nat)(i:Nat):val (xs.take (i+1))=val (xs.take i)+4294967296 ^ i*xs.getD i 0:=by
 rcases Nat.lt_or_ge i xs.length with h|h
 ·exact Gq xs i h
 ·rw[List.take_of_length_le (by omega),List.take_of_length_le h,LL xs i h];simp
theorem Mn{i j:Nat}(h:i<=j):4294967296 ^ i<=4294967296 ^ j:=Nat.pow_le_pow_right (by omega) h
theorem Jq(i:Nat):0<4294967296 ^ i:=Nat.pow_pos (by omega)
theorem BT{xs:List Nat}(h:Ok xs)(i:Nat):val (xs.take i)<4294967296 ^ i:=
 Nat.lt_of_lt_of_le (DC (h.take i)) (Mn (List.length_take_le _ _))
theorem SW{xs ys:List Nat}(hx:Ok xs)(i:Nat)(h:val (xs.drop i)<val (ys.drop i)):val xs<val ys:=by
 rw[BF xs i,BF ys i];have h1:=BT hx i;have h2:=Nat.mul_le_mul_left (4294967296 ^ i) (show val (xs.drop i)+1<=val (ys.drop i) from h);rw[Nat.mul_add,Nat.mul_one]at h2;omega
theorem He{xs ys:List Nat}(hx:Ok xs)(i:Nat)(h:val (xs.drop (i+1))=val (ys.drop (i+1)))(hlt:xs.getD i 0<ys.getD i 0):val xs<val ys:=
 SW hx i (by rw[Bo xs,Bo ys,h];omega)
theorem M5{xs ys:List Nat}(i:Nat)(h:val (xs.drop (i+1))=val (ys.drop (i+1)))(he:xs.getD i 0=ys.getD i 0):val (xs.drop i)=val (ys.drop i):=by
 rw[Bo xs,Bo ys,h,he]
def DY(a b:Nat):Int:=if a<b then-1 else if b<a then 1 else 0
theorem Gh{a b:Nat}(h:a<b):DY a b= -1:=if_pos h
theorem LO{a b:Nat}(h:b<a):DY a b=1:=by unfold DY;rw[if_neg (by omega),if_pos h]
theorem Pc{a b:Nat}(h:a=b):DY a b=0:=by unfold DY;rw[if_neg (by omega),if_neg (by omega)]
theorem JZ{a b:Nat}:DY a b<0↔a<b:=by unfold DY;split<;>(try split)<;>omega
theorem Q5 {as bs zs:List Nat} {k c z c':Nat} (hl:zs.length=k) (h:val (as.take k)+4294967296 ^ k*c=val zs+val (bs.take k))
  (hz:as.getD k 0+4294967296*c'=z+bs.getD k 0+c):val (as.take (k+1))+4294967296 ^ (k+1)*c'=val (zs++[z])+val (bs.take (k+1)):=by
 rw[Ca,Ca,Cm,hl,Nat.pow_succ,Nat.mul_assoc];have h1:=congrArg (4294967296 ^ k*·) hz;simp only[Nat.mul_add]at h1;omega
theorem Sv {as bs zs:List Nat} {n c:Nat} (ha:Ok as) (hz:Ok zs) (hn:as.drop n=[]\/val (as.drop n)=0) (hl:zs.length=n) (hle:val bs<=val as)
  (h:val (as.take n)+4294967296 ^ n*c=val zs+val (bs.take n)):val zs=val as-val bs:=by
 have h0:val (as.drop n)=0:=by rcases hn with h1|h1<;>simp[h1,val]
 have h1:=BF as n;have h2:=BF bs n;have h3:=BT ha n;have h4:=DC hz;rw[hl]at h4;rw[h0,Nat.mul_zero]at h1;rcases Nat.eq_zero_or_pos (val (bs.drop n)) with h5|h5
 ·rw[h5,Nat.mul_zero]at h2;rcases Nat.eq_zero_or_pos c with h6|h6
  ·subst h6;omega
  ·have:=Nat.mul_le_mul_left (4294967296 ^ n) h6;omega
 ·have:=Nat.mul_le_mul_left (4294967296 ^ n) h5;omega
theorem Ok.set{xs:List Nat}(h:Ok xs)(j:Nat){y:Nat}(hy:y<4294967296):Ok (xs.set j y):=fun x hx=>by
 rcases List.mem_or_eq_of_mem_set hx with h1|h1
 ·exact h x h1
 ·omega
theorem DM{xs:List Nat}(h:Ok xs){m c:Nat}(hm:m<4294967296)(hc:c<4294967296):(Af (val xs*m+c)).length<=xs.length+1:=by
 refine Bg ?_
 have h1:=DC h;rw[Nat.pow_succ];have h6:(val xs+1)*4294967296<=4294967296 ^ xs.length*4294967296:=Nat.mul_le_mul_right _ (Nat.succ_le_of_lt h1);have h7:val xs*m<=val xs*4294967295:=Nat.mul_le_mul_left _ (by omega);omega
theorem IQ{n:Nat}{ys:List Nat}(h:Ok ys)(hn:n<=val ys):(Af n).length<=ys.length:=Bg (Nat.lt_of_le_of_lt hn (DC h))
theorem OF{b r l:Nat}(h1:b*l<=r)(h2:r<b*(l+1)):l=r / b:=by
 have hb:0<b:=by
  rcases Nat.eq_zero_or_pos b with h|h
  ·subst h;simp at h2
  ·exact h
 refine(Nat.div_eq_of_lt_le ?_ ?_).symm
 ·rw[Nat.mul_comm];exact h1
 ·rw[Nat.mul_comm];exact h2
theorem RT{xs qs:List Nat}{k b r:Nat}(h:val qs*b+r=val (xs.drop (k+1))):
  val ((xs.getD k 0+4294967296*r) / b::qs)*b+(xs.getD k 0+4294967296*r) % b=val (xs.drop k):=by
 rw[Bo xs k,<-h,val,Nat.add_mul,Nat.mul_add,Nat.mul_assoc];have:=Nat.div_add_mod' (xs.getD k 0+4294967296*r) b;omega
theorem Tr{r b x:Nat}(hr:r<b)(hx:x<4294967296):(x+4294967296*r) / b<4294967296:=by
 refine Nat.div_lt_of_lt_mul ?_
 have:4294967296*(r+1)<=4294967296*b:=Nat.mul_le_mul_left _ hr;rw[Nat.mul_comm b];omega
theorem JH{ys:List Nat}{n:Nat}(h:Ok ys)(hn:n<val ys*4294967296):(Af n).length<=ys.length+1:=by
 refine Bg ?_
 rw[Nat.pow_succ];exact Nat.lt_of_lt_of_le hn (Nat.mul_le_mul_right _ (Nat.le_of_lt (DC h)))
theorem Qy{x r b:Nat}(hr:r<b)(hx:x<4294967296):x+4294967296*r<b*4294967296:=by
 have:4294967296*(r+1)<=4294967296*b:=Nat.mul_le_mul_left _ hr;omega
def MN:Nat->Nat->List UInt8
 |0,_=>[]
 |f+1,n=>if n=0 then [] else UInt8.ofNat (48+n % 10)::MN f (n / 10)
def low(n:Nat):List UInt8:=MN n n
def dec(n:Nat):List UInt8:=if n=0 then [48] else (low n).reverse
theorem SO(f:Nat):∀(g n:Nat),n<=f->n<=g->MN f n=MN g n:=by
 induction f with
 |zero=>intro g n h _;have:n=0:=by omega
        subst this;cases g<;>simp[MN]
 |succ f ih=>
  intro g n hf hg;cases g with
  |zero=>have:n=0:=by omega
         subst this;simp[MN]
  |succ g=>
   simp only[MN];split
   ·rfl
   ·rw[ih g (n / 10) (by omega) (by omega)]
theorem SN(n:Nat)(h:n≠0):low n=UInt8.ofNat (48+n % 10)::low (n / 10):=by
 obtain⟨m,rfl⟩:∃m,n=m+1:=⟨n-1,by omega⟩;unfold low;rw[MN,if_neg h,SO m ((m+1) / 10) _ (by omega) (Nat.le_refl _)]
theorem Qc(q r i:Nat)(hi:i<9)(hr:r<10 ^ (9-i))(h:q≠0\/r≠0):
  low (q*10 ^ (9-i)+r)=UInt8.ofNat (48+r % 10)::low (q*10 ^ (9-(i+1))+r / 10)/\r / 10<10 ^ (9-(i+1)):=by
 obtain⟨j,hj⟩:∃j,9-i=j+1:=⟨9-i-1,by omega⟩;have qE:9-(i+1)=j:=by omega
 rw[qE,hj,Nat.pow_succ];rw[hj,Nat.pow_succ]at hr;have hne:q*(10 ^ j*10)+r≠0:=by
  rcases h with h|h
  ·have:0<q*(10 ^ j*10):=Nat.mul_pos (by omega) (Nat.mul_pos (Nat.pow_pos (by omega)) (by omega));omega
  ·omega
 rw[SN _ hne,<-Nat.mul_assoc];have h1:(q*10 ^ j*10+r) % 10=r % 10:=by omega
 have h2:(q*10 ^ j*10+r) / 10=q*10 ^ j+r / 10:=by omega
 rw[h1,h2];exact⟨rfl,by omega⟩
theorem Qn(q r:Nat)(hr:r<10 ^ (9-9)):q*10 ^ (9-9)+r=q:=by
 simp at hr;subst hr;simp
def Bq(c:UInt8):Bool:=decide (48<=c.toNat) && decide (c.toNat<=57)
def Bi(l:List UInt8):Nat:=l.foldl (fun n c=>10*n+(c.toNat-48)) 0
theorem N3(l:List UInt8)(c:UInt8):Bi (l++[c])=10*Bi l+(c.toNat-48):=by
 unfold Bi;rw[List.foldl_append];rfl
theorem Jz(l:List UInt8)(k:Nat)(h:k<l.length):Bi (l.take (k+1))=10*Bi (l.take k)+(l[k].toNat-48):=by
 rw[List.take_succ_eq_append_getElem h,N3]
theorem JA(l:List UInt8)(h:l.all Bq=true):Bi l<10 ^ l.length:=by
 have key:∀(l:List UInt8) (n k:Nat),l.all Bq=true->n<10 ^ k->l.foldl (fun n c=>10*n+(c.toNat-48)) n<10 ^ (k+l.length):=by
  intro l
  induction l with
  |nil=>intro n k _ hn;simpa using hn
  |cons c l ih=>
   intro n k ha hn;rw[List.all_cons,Bool.and_eq_true]at ha;have hc:=ha.1;unfold Bq at hc;simp at hc;rw[List.foldl_cons,List.length_cons];have:=ih (10*n+(c.toNat-48)) (k+1) ha.2 (by rw[Nat.pow_succ];omega);rw[show k+1+l.length=k+(l.length+1) by omega]at this;exact this
 have:=key l 0 0 h (by simp)
 simpa [Bi] using this
def IV(l:List UInt8):Nat × Nat:=
 if 20001<l.length then (0,7)
 else if l=[] then (0,6)
 else if l[0]? =some 48/\1<l.length then (0,6)
 else if l.all Bq then (Bi l,0) else (0,6)
theorem Q0(l:List UInt8)(k:Nat)(h:k<l.length):(l.take (k+1)).all Bq=((l.take k).all Bq && Bq l[k]):=by
 rw[List.take_succ_eq_append_getElem h,List.all_append];simp
theorem LT{l:List UInt8}{k:Nat}(h:k<l.length)(hf:Bq l[k]=false):l.all Bq=false:=by
 rw[List.all_eq_false];exact⟨l[k],List.getElem_mem h,by simp[hf]⟩
theorem MX{a s c n d:Nat}(h:n=a*s+c):10*n+d=a*(10*s)+(10*c+d):=by
 rw[h,Nat.mul_add,Nat.mul_left_comm];omega
theorem Ke{j:Nat}(h:j<=8):10 ^ j<=100000000:=by
 have:=Nat.pow_le_pow_right (show 0<10 by omega) h;exact this
theorem Pq{j:Nat}(h:j<=8):(10*10 ^ j=1000000000)↔j=8:=by
 have:j=0\/j=1\/j=2\/j=3\/j=4\/j=5\/j=6\/j=7\/j=8:=by omega
 rcases this with rfl|rfl|rfl|rfl|rfl|rfl|rfl|rfl|rfl<;>simp
theorem Km{a k:Nat}(h:a<10 ^ k):(Af a).length<=k:=
 Bg (Nat.lt_of_lt_of_le h (Nat.pow_le_pow_left (by omega) k))
theorem Ik{l:List UInt8}{k:Nat}(h:(l.take k).all Bq=true)(hk:k<=l.length):Bi (l.take k)<10 ^ k:=by
 have:=JA _ h
 rwa [List.length_take,Nat.min_eq_left hk]at this
theorem Qh(b:UInt8):Bq b=true↔48<=b.toNat/\b.toNat<=57:=by unfold Bq;simp
theorem Hy(s:Nat)(h:s<=32):4294967296=2 ^ s*2 ^ (32-s):=by
 rw[<-Nat.pow_add,show s+(32-s)=32 by omega]
theorem Jr(s:Nat)(h:s<=31):2 ^ s<=2147483648:=Nat.le_trans (Nat.pow_le_pow_right (by omega) h) (by decide)
theorem Kx{x s:Nat}(hx:x<4294967296)(hs:s<=31):x*2 ^ s / 4294967296<2 ^ s/\x*2 ^ s<18446744073709551616/\2 ^ s ∣ (x*2 ^ s % 4294967296):=by
 have hp:0<2 ^ s:=Nat.pow_pos (by omega);refine⟨?_,?_,?_⟩
 ·refine Nat.div_lt_of_lt_mul ?_
  exact Nat.mul_lt_mul_of_pos_right hx hp
 ·have:=Jr s hs;have h2:x*2 ^ s<=4294967295*2147483648:=Nat.mul_le_mul (by omega) this;omega
 ·have h1:2 ^ s ∣ 4294967296:=⟨2 ^ (32-s),Hy s (by omega)⟩;exact(Nat.dvd_mod_iff h1).2 ⟨x,Nat.mul_comm _ _⟩
theorem Te{c y s:Nat}(hc:c<2 ^ s)(hy:2 ^ s ∣ y):c ||| y=c+y:=by
 obtain⟨z,rfl⟩:=hy;rw[Nat.mul_comm,<-Nat.shiftLeft_eq,Nat.or_comm,<-Nat.shiftLeft_add_eq_or_of_lt hc,Nat.add_comm]
theorem Md{c y s:Nat}(hs:s<=31)(hc:c<2 ^ s)(hy:2 ^ s ∣ y)(hlt:y<4294967296):c+y<4294967296:=by
 obtain⟨z,rfl⟩:=hy;have h0:=Hy s (by omega);have h1:z<2 ^ (32-s):=by
  rw[h0]at hlt;exact Nat.lt_of_mul_lt_mul_left hlt
 have h2:2 ^ s*(z+1)<=2 ^ s*2 ^ (32-s):=Nat.mul_le_mul_left _ h1;rw[<-h0,Nat.mul_add,Nat.mul_one]at h2;omega
theorem Q8{xs zs:List Nat}{i c s y:Nat}(hl:zs.length=i)(h:val zs+4294967296 ^ i*c=val (xs.take i)*2 ^ s)(hy:y=xs.getD i 0*2 ^ s):
  val (zs++[c+y % 4294967296])+4294967296 ^ (i+1)*(y / 4294967296)=val (xs.take (i+1))*2 ^ s:=by
 rw[Ca,Cm,hl,Nat.add_mul,<-h,Nat.mul_assoc,<-hy,Nat.pow_succ,Nat.mul_assoc,Nat.mul_add,Nat.add_assoc,Nat.add_assoc,<-Nat.mul_add,Nat.mod_add_div,Nat.add_assoc]
theorem Sy(d s:Nat)(zs:List Nat)(x:Nat)(h:val zs=x*2 ^ s):val (List.replicate d 0++zs)=x*2 ^ (32*d+s):=by
 rw[Eo,Pl,List.length_replicate,Nat.zero_add,h,Nat.pow_add,Nat.pow_mul,show (2:Nat) ^ 32=4294967296 from rfl,Nat.mul_left_comm]
theorem Pv{x y r s:Nat}(hs:s<=31):(x+4294967296*(y+4294967296*r)) / 2 ^ s % 4294967296=(x+4294967296*y) / 2 ^ s % 4294967296:=by
 have h0:=Hy s (by omega);have hp:0<2 ^ s:=Nat.pow_pos (by omega);have e:x+4294967296*(y+4294967296*r)=x+4294967296*y+2 ^ s*(4294967296*(2 ^ (32-s)*r)):=by
  have h1:2 ^ s*(4294967296*(2 ^ (32-s)*r))=4294967296*(4294967296*r):=by
   rw[Nat.mul_left_comm,<-Nat.mul_assoc (2 ^ s),<-h0]
  rw[h1];omega
 rw[e,Nat.add_mul_div_left _ _ hp,Nat.add_mul_mod_self_left]
theorem FV{xs:List Nat}(h:Ok xs)(i:Nat):val xs / 4294967296 ^ i=val (xs.drop i):=by
 rw[BF xs i,Nat.add_mul_div_left _ _ (Jq i),Nat.div_eq_of_lt (BT h i),Nat.zero_add]
theorem Q6{xs zs:List Nat}{i s N:Nat}(av:Ok xs)(hN:N=val xs / 2 ^ s)(hs:s<=31)(hl:zs.length=i)(h:val zs=N % 4294967296 ^ i):
  val (zs++[(xs.getD i 0+4294967296*xs.getD (i+1) 0) / 2 ^ s % 4294967296])=N % 4294967296 ^ (i+1):=by
 rw[Cm,hl,h,Nat.pow_succ,Nat.mod_mul];have h2:N / 4294967296 ^ i=val (xs.drop i) / 2 ^ s:=by
  rw[hN,Nat.div_div_eq_div_mul,Nat.mul_comm,<-Nat.div_div_eq_div_mul,FV av]
 rw[h2,Bo xs i,Bo xs (i+1),Pv hs]
theorem Sw{xs zs:List Nat}{s N:Nat}(av:Ok xs)(hN:N=val xs / 2 ^ s)(h:val zs=N % 4294967296 ^ xs.length):val zs=N:=by
 rw[h];exact Nat.mod_eq_of_lt (Nat.lt_of_le_of_lt (by rw[hN];exact Nat.div_le_self _ _) (DC av))
theorem Mc{xs:List Nat}(av:Ok xs)(d s:Nat):val (xs.drop d) / 2 ^ s=val xs / 2 ^ (32*d+s):=by
 rw[<-FV av d,Nat.div_div_eq_div_mul,Nat.pow_add,Nat.pow_mul]
theorem Q7{xs:List Nat}(av:Ok xs){d s:Nat}(h:xs.length<=d):val xs / 2 ^ (32*d+s)=0:=by
 rw[<-Mc av,List.drop_eq_nil_of_le h,val,Nat.zero_div]
theorem P8 {us vs zs:List Nat} {i g c b d b' t:Nat} (hl:zs.length=i) (h:val zs+g*val (vs.take i)=val (us.take i)+4294967296 ^ i*(c+b))
  (ht:t=c+g*vs.getD i 0) (hd:us.getD i 0+4294967296*b'=d+t % 4294967296+b):
  val (zs++[d])+g*val (vs.take (i+1))=val (us.take (i+1))+4294967296 ^ (i+1)*(t / 4294967296+b'):=by
 rw[Ca,Ca,Cm,hl,Nat.mul_add,Nat.pow_succ,Nat.mul_assoc (4294967296 ^ i)];have h1:g*(4294967296 ^ i*vs.getD i 0)=4294967296 ^ i*(g*vs.getD i 0):=Nat.mul_left_comm _ _ _;rw[h1];have hm:=Nat.mod_add_div t 4294967296;have h2:4294967296 ^ i*(d+g*vs.getD i 0+(c+b))=4294967296 ^ i*(us.getD i 0+4294967296*(t / 4294967296+b')):=by
  congr 1
  omega
 simp only[Nat.mul_add]at h2 h ⊢;omega
theorem RB {us vs zs:List Nat} {n g c b d b':Nat} (hl:zs.length=n) (hv:vs.length=n) (hu:us.length=n+1) (h:val zs+g*val (vs.take n)=val (us.take n)+4294967296 ^ n*(c+b))
  (hd:us.getD n 0+4294967296*b'=d+c+b):
  val (zs++[d])+g*val vs=val us+4294967296 ^ (n+1)*b':=by
 rw[BF us n,Bo us n,List.drop_eq_nil_of_le (by omega),val,Nat.mul_zero,Nat.add_zero,Cm,hl];rw[List.take_of_length_le (by omega)]at h;have h2:4294967296 ^ n*(d+(c+b))=4294967296 ^ n*(us.getD n 0+4294967296*b'):=by
  congr 1
  omega
 rw[Nat.pow_succ,Nat.mul_assoc];simp only[Nat.mul_add]at h2 h ⊢;omega
theorem N6{zs:List Nat}{n U V g b:Nat}(hz:Ok zs)(hl:zs.length=n)(h:val zs+g*V=U+4294967296 ^ n*b)(hq:g=U / V)(hb:b<=1):b=0/\val zs=U % V:=by
 have h1:=DC hz;rw[hl]at h1;have h2:g*V<=U:=by rw[hq];exact Nat.div_mul_le_self U V
 have hb0:b=0:=by
  rcases Nat.eq_zero_or_pos b with h3|h3
  ·exact h3
  ·obtain rfl:b=1:=by omega
   omega
 subst hb0;refine⟨rfl,?_⟩;have:=Nat.div_add_mod' U V;rw[<-hq]at this;omega
theorem RA{zs:List Nat}{n U V g b:Nat}(_hz:Ok zs)(hV:0<V)(ZE:zs.length=n)(h:val zs+g*V=U+4294967296 ^ n*b)(hq:g=U / V+1)(hb:b<=1):b=1/\val zs+V=U % V+4294967296 ^ n:=by
 have h3:(U / V+1)*V=U / V*V+V:=by rw[Nat.add_mul,Nat.one_mul]
 have h4:=Nat.div_add_mod' U V;have h5:=Nat.mod_lt U hV;rw[hq,h3]at h;have aX:b=1:=by
  rcases Nat.eq_zero_or_pos b with h6|h6
  ·subst h6;omega
  ·omega
 subst aX;exact⟨rfl,by omega⟩
theorem QO{us vs zs:List Nat}{i c z c':Nat}(hl:zs.length=i)(h:val zs+4294967296 ^ i*c=val (us.take i)+val (vs.take i))(hz:z+4294967296*c'=us.getD i 0+vs.getD i 0+c):
  val (zs++[z])+4294967296 ^ (i+1)*c'=val (us.take (i+1))+val (vs.take (i+1)):=by
 rw[Ca,Ca,Cm,hl,Nat.pow_succ,Nat.mul_assoc];have h2:4294967296 ^ i*(z+4294967296*c')=4294967296 ^ i*(us.getD i 0+vs.getD i 0+c):=by rw[hz]
 simp only[Nat.mul_add]at h2 h ⊢;omega
theorem Sb {us vs zs:List Nat} {n c R V:Nat} (xD:Ok zs) (XX:Ok vs) (hl:zs.length=n) (hv:vs.length=n) (hu:us.length=n+1) (hV:val vs=V)
  (h:val zs+4294967296 ^ n*c=val (us.take n)+val (vs.take n)) (hR:val us+V=R+4294967296 ^ (n+1)) (hlt:R<V):
  val (zs++[(us.getD n 0+c) % 4294967296])=R:=by
 rw[Cm,hl];rw[List.take_of_length_le (by omega:vs.length<=n),hV]at h;have h1:val us=val (us.take n)+4294967296 ^ n*us.getD n 0:=by
  have:=Ca us n;rw[List.take_of_length_le (by omega)]at this;exact this
 have h3:val zs+4294967296 ^ n*(us.getD n 0+c)=R+4294967296 ^ n*4294967296:=by
  rw[Nat.pow_succ]at hR;simp only[Nat.mul_add];omega
 have h4:=DC xD;have h5:=DC XX;rw[hl]at h4;rw[hv,hV]at h5;have h6:us.getD n 0+c=4294967296:=by
  rcases Nat.lt_trichotomy (us.getD n 0+c) 4294967296 with h7|h7|h7
  ·have:=Nat.mul_le_mul_left (4294967296 ^ n) (show us.getD n 0+c+1<=4294967296 from h7);rw[Nat.mul_add,Nat.mul_one]at this;omega
  ·exact h7
  ·have:=Nat.mul_le_mul_left (4294967296 ^ n) (show 4294967296+1<=us.getD n 0+c from h7);rw[Nat.mul_add,Nat.mul_one]at this;omega
 rw[h6]at h3 ⊢;rw[Nat.mod_self,Nat.mul_zero];omega
theorem Gf(us:List Nat)(k i:Nat):(us.drop k).getD i 0=us.getD (k+i) 0:=by
 rw[List.getD_eq_getElem?_getD,List.getD_eq_getElem?_getD,List.getElem?_drop]
theorem H5(us:List Nat){n i:Nat}(h:i<n):(us.take n).getD i 0=us.getD i 0:=by
 rw[List.getD_eq_getElem?_getD,List.getD_eq_getElem?_getD,List.getElem?_take_of_lt h]
def seg(us:List Nat)(k n:Nat):List Nat:=(us.drop k).take (n+1)
theorem Je{us:List Nat}{k n:Nat}(h:k+n+1<=us.length):(seg us k n).length=n+1:=by
 unfold seg;rw[List.length_take,List.length_drop];omega
theorem GX{us:List Nat}{k n i:Nat}(h:i<=n):(seg us k n).getD i 0=us.getD (k+i) 0:=by
 unfold seg;rw[H5 _ (by omega),Gf]
theorem Ok.seg{us:List Nat}(h:Ok us)(k n:Nat):Ok (seg us k n):=(h.drop k).take (n+1)
def over(us:List Nat)(k:Nat)(zs:List Nat):List Nat:=us.take k++zs++us.drop (k+zs.length)
theorem Mx(us:List Nat)(k:Nat):over us k []=us:=by simp[over]
theorem AK{us zs:List Nat}{k:Nat}(h:k+zs.length<=us.length):(over us k zs).length=us.length:=by
 simp[over];omega
theorem G2{us zs:List Nat}{k d:Nat}(h:k+zs.length<us.length):(over us k zs).set (k+zs.length) d=over us k (zs++[d]):=by
 unfold over;have hl:(us.take k++zs).length=k+zs.length:=by simp;omega
 rw[List.set_append_right _ _ (by omega),hl,Nat.sub_self,List.drop_eq_getElem_cons h,List.set_cons_zero,List.length_append,List.length_singleton,<-Nat.add_assoc];simp[List.append_assoc]
theorem G3{us zs:List Nat}{k i:Nat}(h:k<=us.length)(hi:zs.length<=i):(over us k zs).getD (k+i) 0=us.getD (k+i) 0:=by
 unfold over;have hl:(us.take k++zs).length=k+zs.length:=by simp;omega
 rw[List.getD_eq_getElem?_getD,List.getD_eq_getElem?_getD,List.getElem?_append_right (by omega),hl,List.getElem?_drop]
 congr 2
 omega
theorem OW{us zs:List Nat}{k i:Nat}(h:k<=us.length)(hi:i<zs.length):(over us k zs).getD (k+i) 0=zs.getD i 0:=by
 unfold over;have hl:(us.take k).length=k:=by simp;omega
 rw[List.append_assoc,List.getD_eq_getElem?_getD,List.getD_eq_getElem?_getD,List.getElem?_append_right (by omega),hl,Nat.add_sub_cancel_left,List.getElem?_append_left hi]
theorem PV{us zs ys:List Nat}{k:Nat}(h:k<=us.length)(hl:ys.length=zs.length):over (over us k zs) k ys=over us k ys:=by
 unfold over;have h1:(us.take k).length=k:=by simp;omega
 rw[hl,List.append_assoc (us.take k) zs,List.take_append_of_le_length (by omega),List.take_of_length_le (by omega)]
 congr 1
 rw[List.drop_append,List.drop_of_length_le (by omega),h1,List.nil_append,Nat.add_sub_cancel_left,List.drop_append,List.drop_of_length_le (Nat.le_refl _),Nat.sub_self,List.nil_append,List.drop_zero]
theorem Ok.over{us zs:List Nat}(h:Ok us)(h':Ok zs)(k:Nat):Ok (over us k zs):=((h.take k).append h').append (h.drop _)
def D5(u0 us qs:List Nat)(V K:Nat):Prop:=
 us.length=u0.length/\Ok us/\us.take K=u0.take K/\val (us.drop K)<V/\val (us.drop K)+val qs*V=val (u0.drop K)
theorem D5.seg_lt{u0 us qs:List Nat}{V k n:Nat}(h:D5 u0 us qs V (k+1))(ZD:us.length<=4294967296)(hV:V<4294967296 ^ n):
  val (seg us k n)=us.getD k 0+4294967296*val (us.drop (k+1))/\val (seg us k n)<V*4294967296:=by
 obtain⟨hl,av,ht,hlt,hv⟩:=h;have h1:val (seg us k n)=val (us.drop k):=by
  unfold seg;have h2:=BF (us.drop k) (n+1);have h3:val ((us.drop k).drop (n+1))=0:=by
   rw[List.drop_drop,show k+(n+1)=(k+1)+n by omega,<-List.drop_drop,<-FV (av.drop (k+1)) n];exact Nat.div_eq_of_lt (Nat.lt_trans hlt hV)
  rw[h3,Nat.mul_zero]at h2;exact h2.symm
 rw[h1,Bo us k];refine⟨rfl,?_⟩;have h4:=av.get k;have h5:=Nat.mul_le_mul_left 4294967296 (show val (us.drop (k+1))+1<=V from hlt);rw[Nat.mul_add,Nat.mul_one,Nat.mul_comm 4294967296 V]at h5;omega
theorem D5.step {u0 us qs zs:List Nat} {V k n:Nat} (h:D5 u0 us qs V (k+1)) (hn:us.length<=4294967296) (hV:V<4294967296 ^ n) (xR:0<V) (hk:k+n+1<=us.length)
  (hz:Ok zs) (hl:zs.length=n+1) (hm:val zs=val (seg us k n) % V):D5 u0 (over us k zs) (val (seg us k n) / V::qs) V k:=by
 obtain⟨eF,gk⟩:=h.seg_lt hn hV;obtain⟨h1,av,ht,hlt,hv⟩:=h;have hd:val ((over us k zs).drop k)=val zs:=by
  unfold over;have h2:(us.take k).length=k:=by simp;omega
  rw[List.append_assoc,List.drop_append,List.drop_of_length_le (by omega),h2,Nat.sub_self,List.drop_zero,List.nil_append,Eo];have h3:val (us.drop (k+zs.length))=0:=by
   rw[hl,show k+(n+1)=(k+1)+n by omega,<-List.drop_drop,<-FV (av.drop (k+1)) n];exact Nat.div_eq_of_lt (Nat.lt_trans hlt hV)
  rw[h3,Nat.mul_zero,Nat.add_zero]
 refine⟨by rw[AK (by omega),h1],av.over hz k,?_,?_,?_⟩
 ·unfold over;have h2:(us.take k).length=k:=by simp;omega
  rw[List.append_assoc,List.take_append_of_le_length (by omega),List.take_of_length_le (by omega)];have:=congrArg (List.take k) ht
  rwa [List.take_take,List.take_take,Nat.min_eq_left (by omega)]at this
 ·rw[hd,hm];exact Nat.mod_lt _ xR
 ·rw[hd,hm,val];have h2:us.getD k 0=u0.getD k 0:=by
   have:=congrArg (fun l=>l.getD k 0) ht
   rwa [H5 _ (by omega),H5 _ (by omega)]at this
  rw[Bo u0 k,<-hv,<-h2,Nat.add_mul,Nat.mul_add];have h3:=Nat.div_add_mod' (val (seg us k n)) V;have h4:4294967296*(val qs*V)=4294967296*val qs*V:=(Nat.mul_assoc _ _ _).symm;omega
theorem D5.done{u0 us qs:List Nat}{V n:Nat}(h:D5 u0 us qs V 0)(hV:V<4294967296 ^ n):val qs=val u0 / V/\val (us.take n)=val u0 % V:=by
 obtain⟨h1,av,ht,hlt,hv⟩:=h;rw[List.drop_zero,List.drop_zero]at hv;rw[List.drop_zero]at hlt;have h2:=BF us n;rw[<-FV av n,Nat.div_eq_of_lt (Nat.lt_trans hlt hV),Nat.mul_zero,Nat.add_zero]at h2;rw[h2]at hv hlt;rw[Nat.add_comm]at hv;exact Lv hlt hv
theorem D5.start{u0:List Nat}{V n:Nat}(av:Ok u0)(hn:1<=n)(hl:n<=u0.length)(h0:u0.getD (u0.length-1) 0=0)(hV:4294967296 ^ (n-1)<=V):D5 u0 u0 [] V (u0.length-n):=by
 refine⟨rfl,av,rfl,?_,by simp[val]⟩;have h1:=Ca (u0.drop (u0.length-n)) (n-1);rw[Nat.sub_add_cancel hn,Gf,show u0.length-n+(n-1)=u0.length-1 by omega,h0,Nat.mul_zero,Nat.add_zero,List.take_of_length_le (by simp;omega)]at h1;rw[h1];exact Nat.lt_of_lt_of_le (BT (av.drop _) _) hV
theorem M0(a b:Nat):Nat.gcd a b=Nat.gcd b (a % b):=by
 rw[Nat.gcd_comm a b,Nat.gcd_rec b a,Nat.gcd_comm]
theorem Qx(a b s:Nat):(a*2 ^ s) / (b*2 ^ s)=a / b:=Nat.mul_div_mul_right _ _ (Nat.pow_pos (by omega))
theorem Qa(a b s:Nat):(a*2 ^ s) % (b*2 ^ s) / 2 ^ s=a % b:=by
 rw[Nat.mul_mod_mul_right,Nat.mul_div_cancel _ (Nat.pow_pos (by omega))]
end Big
end Go.Proofs.YtkoaogkknnelaaaGreatDoor
