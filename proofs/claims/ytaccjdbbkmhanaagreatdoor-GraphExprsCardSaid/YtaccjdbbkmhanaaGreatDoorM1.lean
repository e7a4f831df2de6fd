namespace Go.Proofs.YtaccjdbbkmhanaaGreatDoor
namespace Big
def val:List Nat→Nat
 |[]=>0
 |x::xs=>x+4294967296*val xs
def Ok (xs:List Nat):Prop:=∀x∈xs,x<4294967296
def limbsF:Nat→Nat→List Nat
 |0,_=>[]
 |f+1,n=>if n=0 then [] else n % 4294967296::limbsF f (n / 4294967296)
def limbs (n:Nat):List Nat:=limbsF n n
theorem limbsF_le (f:Nat):∀(g n:Nat),n≤f→n≤g→limbsF f n=limbsF g n:=by
 induction f with
 |zero=>intro g n h _;have:n=0:=by omega
        subst this;cases g<;>simp [limbsF]
 |succ f ih=>
  intro g n hf hg
  cases g with
  |zero=>have:n=0:=by omega
         subst this;simp [limbsF]
  |succ g=>
   simp only [limbsF]
   split
   ·rfl
   ·rw [ih g (n / 4294967296) (by omega) (by omega)]
theorem limbs_zero:limbs 0=[]:=rfl
theorem limbs_pos (n:Nat) (h:n≠0):limbs n=n % 4294967296::limbs (n / 4294967296):=by
 obtain ⟨m,rfl⟩:∃m,n=m+1:=⟨n-1,by omega⟩
 unfold limbs
 rw [limbsF,if_neg h,limbsF_le m ((m+1) / 4294967296) _ (by omega) (Nat.le_refl _)]
theorem limbs_step (x n:Nat) (hx:x<4294967296) (h:x+4294967296*n≠0):limbs (x+4294967296*n)=x::limbs n:=by
 rw [limbs_pos _ h]
 have h1:(x+4294967296*n) % 4294967296=x:=by omega
 have h2:(x+4294967296*n) / 4294967296=n:=by omega
 rw [h1,h2]
theorem ok_nil:Ok []:=fun _ h=>by cases h
theorem ok_cons {x:Nat} {xs:List Nat} (hx:x<4294967296) (h:Ok xs):Ok (x::xs):=fun y hy=>by
 cases hy with
 |head=>exact hx
 |tail _ h'=>exact h y h'
theorem Ok.head {x:Nat} {xs:List Nat} (h:Ok (x::xs)):x<4294967296:=h x (by simp)
theorem Ok.tail {x:Nat} {xs:List Nat} (h:Ok (x::xs)):Ok xs:=fun y hy=>h y (by simp [hy])
theorem Ok.append {xs ys:List Nat} (h:Ok xs) (k:Ok ys):Ok (xs++ys):=fun y hy=>by
 rcases List.mem_append.1 hy with h1|h1
 ·exact h y h1
 ·exact k y h1
theorem Ok.take {xs:List Nat} (h:Ok xs) (n:Nat):Ok (xs.take n):=fun y hy=>h y (List.mem_of_mem_take hy)
theorem Ok.drop {xs:List Nat} (h:Ok xs) (n:Nat):Ok (xs.drop n):=fun y hy=>h y (List.mem_of_mem_drop hy)
theorem Ok.get {xs:List Nat} (h:Ok xs) (i:Nat):xs.getD i 0<4294967296:=by
 rw [List.getD_eq_getElem?_getD]
 cases hx:xs[i]? with
 |none=>simp
 |some x=>exact h x (List.mem_of_getElem? hx)
theorem ok_limbs (n:Nat):Ok (limbs n):=by
 induction n using Nat.strongRecOn with
 |_ n ih=>
  by_cases h:n=0
  ·subst h;exact ok_nil
  ·rw [limbs_pos n h]
   exact ok_cons (by omega) (ih _ (by omega))
theorem val_limbs (n:Nat):val (limbs n)=n:=by
 induction n using Nat.strongRecOn with
 |_ n ih=>
  by_cases h:n=0
  ·subst h;rfl
  ·rw [limbs_pos n h,val,ih _ (by omega)]
   omega
theorem val_append (xs ys:List Nat):val (xs++ys)=val xs+4294967296 ^ xs.length*val ys:=by
 induction xs with
 |nil=>simp [val]
 |cons x xs ih=>
  rw [List.cons_append,val,val,ih,List.length_cons,Nat.pow_succ,Nat.mul_add,←Nat.mul_assoc,Nat.mul_comm 4294967296 (4294967296 ^ xs.length)]
  omega
theorem val_zeros (k:Nat):val (List.replicate k 0)=0:=by
 induction k with
 |zero=>rfl
 |succ k ih=>rw [List.replicate_succ,val,ih]
theorem val_lt {xs:List Nat} (h:Ok xs):val xs<4294967296 ^ xs.length:=by
 induction xs with
 |nil=>simp [val]
 |cons x xs ih=>
  have h1:=ih h.tail
  have h2:=h.head
  rw [val,List.length_cons,Nat.pow_succ]
  have h3:val xs+1≤4294967296 ^ xs.length:=h1
  have h4:=Nat.mul_le_mul_left 4294967296 h3
  rw [Nat.mul_comm (4294967296 ^ xs.length)]
  omega
def size:List Nat→Nat
 |[]=>0
 |x::xs=>if size xs=0 then (if x=0 then 0 else 1) else size xs+1
theorem size_le (xs:List Nat):size xs≤xs.length:=by
 induction xs with
 |nil=>simp [size]
 |cons x xs ih=>rw [size,List.length_cons];split<;>(try split)<;>omega
theorem size_zero {xs:List Nat} (h:size xs=0):val xs=0:=by
 induction xs with
 |nil=>rfl
 |cons x xs ih=>
  rw [size] at h
  split at h
  ·rename_i h0
   split at h
   ·rename_i hx;rw [val,ih h0,hx]
   ·omega
  ·omega
theorem size_of_val {xs:List Nat} (h:val xs=0):size xs=0:=by
 induction xs with
 |nil=>rfl
 |cons x xs ih=>
  rw [val] at h
  rw [size,ih (by omega),if_pos rfl,if_pos (by omega)]
theorem take_size {xs:List Nat} (h:Ok xs):xs.take (size xs)=limbs (val xs):=by
 induction xs with
 |nil=>rfl
 |cons x xs ih=>
  have h1:=ih h.tail
  by_cases h0:size xs=0
  ·have hv:=size_zero h0
   rw [size,if_pos h0,val,hv]
   split
   ·rename_i hx;subst hx;rfl
   ·rename_i hx
    rw [limbs_step _ _ h.head (by omega)];rfl
  ·have hv:val xs≠0:=fun e=>h0 (size_of_val e)
   rw [size,if_neg h0,val,limbs_step _ _ h.head (by omega),←h1]
   rfl
theorem size_eq {xs:List Nat} (h:Ok xs):size xs=(limbs (val xs)).length:=by
 rw [←take_size h,List.length_take,Nat.min_eq_left (size_le xs)]
theorem size_top (xs:List Nat) (n:Nat) (hn:n≤xs.length) (hz:∀i,n≤i→xs.getD i 0=0) (ht:0<n→xs.getD (n-1) 0≠0):size xs=n:=by
 induction xs generalizing n with
 |nil=>simp at hn;subst hn;rfl
 |cons x xs ih=>
  cases n with
  |zero=>
   have h0:=ih 0 (Nat.zero_le _) (fun i _=>by have:=hz (i+1) (Nat.zero_le _);simpa using this) (by omega)
   have hx:x=0:=by have:=hz 0 (Nat.le_refl _);simpa using this
   rw [size,if_pos h0,if_pos hx]
  |succ n=>
   have h0:=ih n (by simpa using hn) (fun i hi=>by have:=hz (i+1) (by omega);simpa using this) (fun hp=>by
    have:=ht (by omega)
    obtain ⟨m,rfl⟩:∃m,n=m+1:=⟨n-1,by omega⟩
    simpa using this)
   rw [size]
   split
   ·rename_i h1
    have hn0:n=0:=by omega
    subst hn0
    have:=ht (by omega)
    rw [if_neg (by simpa using this)]
   ·omega
theorem length_limbs_le {n k:Nat} (h:n<4294967296 ^ k):(limbs n).length≤k:=by
 induction k generalizing n with
 |zero=>have:n=0:=by omega
        subst this;simp [limbs_zero]
 |succ k ih=>
  by_cases h0:n=0
  ·subst h0;simp [limbs_zero]
  ·rw [limbs_pos n h0,List.length_cons]
   have h1:n / 4294967296<4294967296 ^ k:=by
    rw [Nat.pow_succ,Nat.mul_comm] at h
    exact Nat.div_lt_of_lt_mul h
   have:=ih h1
   omega
theorem length_limbs_val {xs:List Nat} (h:Ok xs):(limbs (val xs)).length≤xs.length:=length_limbs_le (val_lt h)
theorem limbs_eq_nil {n:Nat}:limbs n=[]↔n=0:=by
 constructor
 ·intro h
  by_cases h0:n=0
  ·exact h0
  ·rw [limbs_pos n h0] at h;cases h
 ·rintro rfl;rfl
def Canon (xs:List Nat):Prop:=xs=limbs (val xs)
theorem val_take_succ (xs:List Nat) (i:Nat) (h:i<xs.length):val (xs.take (i+1))=val (xs.take i)+4294967296 ^ i*xs.getD i 0:=by
 rw [List.take_succ_eq_append_getElem h,val_append,List.length_take,Nat.min_eq_left (by omega),List.getD_eq_getElem?_getD,List.getElem?_eq_getElem h]
 simp [val]
theorem val_drop (xs:List Nat) (i:Nat) (h:i<xs.length):val (xs.drop i)=xs.getD i 0+4294967296*val (xs.drop (i+1)):=by
 rw [List.drop_eq_getElem_cons h,val,List.getD_eq_getElem?_getD,List.getElem?_eq_getElem h]
 rfl
theorem val_split (xs:List Nat) (i:Nat) (h:i≤xs.length):val xs=val (xs.take i)+4294967296 ^ i*val (xs.drop i):=by
 have:=val_append (xs.take i) (xs.drop i)
 rw [List.take_append_drop,List.length_take,Nat.min_eq_left h] at this
 exact this
theorem val_snoc (ys:List Nat) (y:Nat):val (ys++[y])=val ys+4294967296 ^ ys.length*y:=by
 rw [val_append];simp [val]
theorem small_step (xs ys:List Nat) (k m c cy:Nat) (hk:k<xs.length) (hl:ys.length=k) (h:val ys+4294967296 ^ k*cy=val (xs.take k)*m+c):
  val (ys++[(cy+xs.getD k 0*m) % 4294967296])+4294967296 ^ (k+1)*((cy+xs.getD k 0*m) / 4294967296)=val (xs.take (k+1))*m+c:=by
 rw [val_snoc,val_take_succ xs k hk,hl,Nat.pow_succ,Nat.add_mul,Nat.mul_assoc (4294967296 ^ k) 4294967296,Nat.add_assoc,←Nat.mul_add,Nat.mod_add_div,Nat.mul_add,Nat.mul_assoc]
 omega
theorem prod_le {x m:Nat} (hx:x<4294967296) (hm:m<4294967296):x*m≤18446744065119617025:=
 Nat.le_trans (Nat.mul_le_mul (Nat.le_sub_one_of_lt hx) (Nat.le_sub_one_of_lt hm)) (by decide)
theorem quo_step (xs qs:List Nat) (k d r:Nat) (hk:k<xs.length) (h:val qs*d+r=val (xs.drop (k+1))):
  val ((r*4294967296+xs.getD k 0) / d::qs)*d+(r*4294967296+xs.getD k 0) % d=val (xs.drop k):=by
 rw [val_drop xs k hk,←h,val,Nat.add_mul,Nat.mul_add,Nat.mul_assoc]
 have:=Nat.div_add_mod' (r*4294967296+xs.getD k 0) d
 omega
theorem quo_lt {r d x:Nat} (hr:r<d) (hx:x<4294967296):(r*4294967296+x) / d<4294967296:=by
 have h1:r*4294967296+x<d*4294967296:=by omega
 exact Nat.div_lt_of_lt_mul h1
theorem quo_end {q d r n:Nat} (hd:r<d) (h:q*d+r=n):q=n / d∧r=n % d:=by
 have h0:0<d:=by omega
 subst h
 refine ⟨?_,?_⟩
 ·rw [Nat.add_comm,Nat.add_mul_div_right _ _ h0,Nat.div_eq_of_lt hd,Nat.zero_add]
 ·rw [Nat.add_comm,Nat.add_mul_mod_self_right,Nat.mod_eq_of_lt hd]
theorem getD_ge (xs:List Nat) (i:Nat) (h:xs.length≤i):xs.getD i 0=0:=by
 rw [List.getD_eq_getElem?_getD,List.getElem?_eq_none h];rfl
theorem val_drop' (xs:List Nat) (i:Nat):val (xs.drop i)=xs.getD i 0+4294967296*val (xs.drop (i+1)):=by
 rcases Nat.lt_or_ge i xs.length with h|h
 ·exact val_drop xs i h
 ·rw [List.drop_eq_nil_of_le h,List.drop_eq_nil_of_le (by omega),getD_ge xs i h];rfl
theorem val_split' (xs:List Nat) (i:Nat):val xs=val (xs.take i)+4294967296 ^ i*val (xs.drop i):=by
 rcases Nat.lt_or_ge i xs.length with h|h
 ·exact val_split xs i (by omega)
 ·rw [List.drop_eq_nil_of_le h,List.take_of_length_le h];simp [val]
theorem val_take' (xs:List Nat) (i:Nat):val (xs.take (i+1))=val (xs.take i)+4294967296 ^ i*xs.getD i 0:=by
 rcases Nat.lt_or_ge i xs.length with h|h
 ·exact val_take_succ xs i h
 ·rw [List.take_of_length_le (by omega),List.take_of_length_le h,getD_ge xs i h];simp
theorem pow_mono {i j:Nat} (h:i≤j):4294967296 ^ i≤4294967296 ^ j:=Nat.pow_le_pow_right (by omega) h
theorem pow_pos' (i:Nat):0<4294967296 ^ i:=Nat.pow_pos (by omega)
theorem val_take_lt {xs:List Nat} (h:Ok xs) (i:Nat):val (xs.take i)<4294967296 ^ i:=
 Nat.lt_of_lt_of_le (val_lt (h.take i)) (pow_mono (List.length_take_le _ _))
theorem drop_lt {xs ys:List Nat} (hx:Ok xs) (i:Nat) (h:val (xs.drop i)<val (ys.drop i)):val xs<val ys:=by
 rw [val_split' xs i,val_split' ys i]
 have h1:=val_take_lt hx i
 have h2:=Nat.mul_le_mul_left (4294967296 ^ i) (show val (xs.drop i)+1≤val (ys.drop i) from h)
 rw [Nat.mul_add,Nat.mul_one] at h2
 omega
theorem digit_lt {xs ys:List Nat} (hx:Ok xs) (i:Nat) (h:val (xs.drop (i+1))=val (ys.drop (i+1))) (hlt:xs.getD i 0<ys.getD i 0):val xs<val ys:=
 drop_lt hx i (by rw [val_drop' xs,val_drop' ys,h];omega)
theorem digit_eq {xs ys:List Nat} (i:Nat) (h:val (xs.drop (i+1))=val (ys.drop (i+1))) (he:xs.getD i 0=ys.getD i 0):val (xs.drop i)=val (ys.drop i):=by
 rw [val_drop' xs,val_drop' ys,h,he]
def cmpI (a b:Nat):Int:=if a<b then-1 else if b<a then 1 else 0
theorem cmpI_lt {a b:Nat} (h:a<b):cmpI a b= -1:=if_pos h
theorem cmpI_gt {a b:Nat} (h:b<a):cmpI a b=1:=by unfold cmpI;rw [if_neg (by omega),if_pos h]
theorem cmpI_eq {a b:Nat} (h:a=b):cmpI a b=0:=by unfold cmpI;rw [if_neg (by omega),if_neg (by omega)]
theorem cmpI_neg {a b:Nat}:cmpI a b<0↔a<b:=by unfold cmpI;split<;>(try split)<;>omega
theorem sub_step {as bs zs:List Nat} {k c z c':Nat} (hl:zs.length=k) (h:val (as.take k)+4294967296 ^ k*c=val zs+val (bs.take k))
  (hz:as.getD k 0+4294967296*c'=z+bs.getD k 0+c):val (as.take (k+1))+4294967296 ^ (k+1)*c'=val (zs++[z])+val (bs.take (k+1)):=by
 rw [val_take',val_take',val_snoc,hl,Nat.pow_succ,Nat.mul_assoc]
 have h1:=congrArg (4294967296 ^ k*·) hz
 simp only [Nat.mul_add] at h1
 omega
theorem sub_end {as bs zs:List Nat} {n c:Nat} (ha:Ok as) (hz:Ok zs) (hn:as.drop n=[]∨val (as.drop n)=0) (hl:zs.length=n) (hle:val bs≤val as)
  (h:val (as.take n)+4294967296 ^ n*c=val zs+val (bs.take n)):val zs=val as-val bs:=by
 have h0:val (as.drop n)=0:=by rcases hn with h1|h1<;>simp [h1,val]
 have h1:=val_split' as n
 have h2:=val_split' bs n
 have h3:=val_take_lt ha n
 have h4:=val_lt hz
 rw [hl] at h4
 rw [h0,Nat.mul_zero] at h1
 rcases Nat.eq_zero_or_pos (val (bs.drop n)) with h5|h5
 ·rw [h5,Nat.mul_zero] at h2
  rcases Nat.eq_zero_or_pos c with h6|h6
  ·subst h6;omega
  ·have:=Nat.mul_le_mul_left (4294967296 ^ n) h6
   omega
 ·have:=Nat.mul_le_mul_left (4294967296 ^ n) h5
  omega
theorem Ok.set {xs:List Nat} (h:Ok xs) (j:Nat) {y:Nat} (hy:y<4294967296):Ok (xs.set j y):=fun x hx=>by
 rcases List.mem_or_eq_of_mem_set hx with h1|h1
 ·exact h x h1
 ·omega
theorem getD_set_ne (os:List Nat) (i j y:Nat) (h:i≠j):(os.set i y).getD j 0=os.getD j 0:=by
 rw [List.getD_eq_getElem?_getD,List.getD_eq_getElem?_getD,List.getElem?_set_ne h]
theorem length_limbs_mul {xs:List Nat} (h:Ok xs) {m c:Nat} (hm:m<4294967296) (hc:c<4294967296):(limbs (val xs*m+c)).length≤xs.length+1:=by
 refine length_limbs_le ?_
 have h1:=val_lt h
 rw [Nat.pow_succ]
 have h6:(val xs+1)*4294967296≤4294967296 ^ xs.length*4294967296:=Nat.mul_le_mul_right _ (Nat.succ_le_of_lt h1)
 have h7:val xs*m≤val xs*4294967295:=Nat.mul_le_mul_left _ (by omega)
 omega
theorem length_limbs_lt {n:Nat} {ys:List Nat} (h:Ok ys) (hn:n≤val ys):(limbs n).length≤ys.length:=length_limbs_le (Nat.lt_of_le_of_lt hn (val_lt h))
theorem bisect_end {b r l:Nat} (h1:b*l≤r) (h2:r<b*(l+1)):l=r / b:=by
 have hb:0<b:=by
  rcases Nat.eq_zero_or_pos b with h|h
  ·subst h;simp at h2
  ·exact h
 refine (Nat.div_eq_of_lt_le ?_ ?_).symm
 ·rw [Nat.mul_comm];exact h1
 ·rw [Nat.mul_comm];exact h2
theorem div_step {xs qs:List Nat} {k b r:Nat} (h:val qs*b+r=val (xs.drop (k+1))):
  val ((xs.getD k 0+4294967296*r) / b::qs)*b+(xs.getD k 0+4294967296*r) % b=val (xs.drop k):=by
 rw [val_drop' xs k,←h,val,Nat.add_mul,Nat.mul_add,Nat.mul_assoc]
 have:=Nat.div_add_mod' (xs.getD k 0+4294967296*r) b
 omega
theorem div_lt {r b x:Nat} (hr:r<b) (hx:x<4294967296):(x+4294967296*r) / b<4294967296:=by
 refine Nat.div_lt_of_lt_mul ?_
 have:4294967296*(r+1)≤4294967296*b:=Nat.mul_le_mul_left _ hr
 rw [Nat.mul_comm b]
 omega
end Big
end Go.Proofs.YtaccjdbbkmhanaaGreatDoor
namespace Go.Proofs.YtaccjdbbkmhanaaGreatDoor
namespace Big
theorem limbs_len_step {ys:List Nat} {n:Nat} (h:Ok ys) (hn:n<val ys*4294967296):(limbs n).length≤ys.length+1:=by
 refine length_limbs_le ?_
 rw [Nat.pow_succ]
 exact Nat.lt_of_lt_of_le hn (Nat.mul_le_mul_right _ (Nat.le_of_lt (val_lt h)))
theorem div_bound {x r b:Nat} (hr:r<b) (hx:x<4294967296):x+4294967296*r<b*4294967296:=by
 have:4294967296*(r+1)≤4294967296*b:=Nat.mul_le_mul_left _ hr
 omega
end Big
end Go.Proofs.YtaccjdbbkmhanaaGreatDoor
namespace Go.Proofs.YtaccjdbbkmhanaaGreatDoor
namespace Big
def lowF:Nat→Nat→List UInt8
 |0,_=>[]
 |f+1,n=>if n=0 then [] else UInt8.ofNat (48+n % 10)::lowF f (n / 10)
def low (n:Nat):List UInt8:=lowF n n
def dec (n:Nat):List UInt8:=if n=0 then [48] else (low n).reverse
theorem lowF_le (f:Nat):∀(g n:Nat),n≤f→n≤g→lowF f n=lowF g n:=by
 induction f with
 |zero=>intro g n h _;have:n=0:=by omega
        subst this;cases g<;>simp [lowF]
 |succ f ih=>
  intro g n hf hg
  cases g with
  |zero=>have:n=0:=by omega
         subst this;simp [lowF]
  |succ g=>
   simp only [lowF]
   split
   ·rfl
   ·rw [ih g (n / 10) (by omega) (by omega)]
theorem low_pos (n:Nat) (h:n≠0):low n=UInt8.ofNat (48+n % 10)::low (n / 10):=by
 obtain ⟨m,rfl⟩:∃m,n=m+1:=⟨n-1,by omega⟩
 unfold low
 rw [lowF,if_neg h,lowF_le m ((m+1) / 10) _ (by omega) (Nat.le_refl _)]
theorem low_group (q r i:Nat) (hi:i<9) (hr:r<10 ^ (9-i)) (h:q≠0∨r≠0):
  low (q*10 ^ (9-i)+r)=UInt8.ofNat (48+r % 10)::low (q*10 ^ (9-(i+1))+r / 10)∧r / 10<10 ^ (9-(i+1)):=by
 obtain ⟨j,hj⟩:∃j,9-i=j+1:=⟨9-i-1,by omega⟩
 have hj2:9-(i+1)=j:=by omega
 rw [hj2,hj,Nat.pow_succ]
 rw [hj,Nat.pow_succ] at hr
 have hne:q*(10 ^ j*10)+r≠0:=by
  rcases h with h|h
  ·have:0<q*(10 ^ j*10):=Nat.mul_pos (by omega) (Nat.mul_pos (Nat.pow_pos (by omega)) (by omega))
   omega
  ·omega
 rw [low_pos _ hne,←Nat.mul_assoc]
 have h1:(q*10 ^ j*10+r) % 10=r % 10:=by omega
 have h2:(q*10 ^ j*10+r) / 10=q*10 ^ j+r / 10:=by omega
 rw [h1,h2]
 exact ⟨rfl,by omega⟩
theorem group_end (q r:Nat) (hr:r<10 ^ (9-9)):q*10 ^ (9-9)+r=q:=by
 simp at hr
 subst hr
 simp
end Big
end Go.Proofs.YtaccjdbbkmhanaaGreatDoor
namespace Go.Proofs.YtaccjdbbkmhanaaGreatDoor
namespace Big
def isDig (c:UInt8):Bool:=decide (48≤c.toNat) && decide (c.toNat≤57)
def numOf (l:List UInt8):Nat:=l.foldl (fun n c=>10*n+(c.toNat-48)) 0
theorem numOf_snoc (l:List UInt8) (c:UInt8):numOf (l++[c])=10*numOf l+(c.toNat-48):=by
 unfold numOf;rw [List.foldl_append];rfl
theorem numOf_take (l:List UInt8) (k:Nat) (h:k<l.length):numOf (l.take (k+1))=10*numOf (l.take k)+(l[k].toNat-48):=by
 rw [List.take_succ_eq_append_getElem h,numOf_snoc]
theorem numOf_lt (l:List UInt8) (h:l.all isDig=true):numOf l<10 ^ l.length:=by
 have key:∀(l:List UInt8) (n k:Nat),l.all isDig=true→n<10 ^ k→l.foldl (fun n c=>10*n+(c.toNat-48)) n<10 ^ (k+l.length):=by
  intro l
  induction l with
  |nil=>intro n k _ hn;simpa using hn
  |cons c l ih=>
   intro n k ha hn
   rw [List.all_cons,Bool.and_eq_true] at ha
   have hc:=ha.1
   unfold isDig at hc
   simp at hc
   rw [List.foldl_cons,List.length_cons]
   have:=ih (10*n+(c.toNat-48)) (k+1) ha.2 (by rw [Nat.pow_succ];omega)
   rw [show k+1+l.length=k+(l.length+1) by omega] at this
   exact this
 have:=key l 0 0 h (by simp)
 simpa [numOf] using this
def natural (l:List UInt8):Nat × Nat:=
 if 20001<l.length then (0,7)
 else if l=[] then (0,6)
 else if l[0]? =some 48∧1<l.length then (0,6)
 else if l.all isDig then (numOf l,0) else (0,6)
theorem take_all (l:List UInt8) (k:Nat) (h:k<l.length):(l.take (k+1)).all isDig=((l.take k).all isDig && isDig l[k]):=by
 rw [List.take_succ_eq_append_getElem h,List.all_append]
 simp
theorem all_false_of {l:List UInt8} {k:Nat} (h:k<l.length) (hf:isDig l[k]=false):l.all isDig=false:=by
 rw [List.all_eq_false]
 exact ⟨l[k],List.getElem_mem h,by simp [hf]⟩
theorem group_digit {a s c n d:Nat} (h:n=a*s+c):10*n+d=a*(10*s)+(10*c+d):=by
 rw [h,Nat.mul_add,Nat.mul_left_comm]
 omega
theorem ten_pow_bound {j:Nat} (h:j≤8):10 ^ j≤100000000:=by
 have:=Nat.pow_le_pow_right (show 0<10 by omega) h
 exact this
theorem ten_pow_9 {j:Nat} (h:j≤8):(10*10 ^ j=1000000000)↔j=8:=by
 have:j=0∨j=1∨j=2∨j=3∨j=4∨j=5∨j=6∨j=7∨j=8:=by omega
 rcases this with rfl|rfl|rfl|rfl|rfl|rfl|rfl|rfl|rfl<;>simp
theorem limbs_len_pow {a k:Nat} (h:a<10 ^ k):(limbs a).length≤k:=
 length_limbs_le (Nat.lt_of_lt_of_le h (Nat.pow_le_pow_left (by omega) k))
theorem take_all_lt {l:List UInt8} {k:Nat} (h:(l.take k).all isDig=true) (hk:k≤l.length):numOf (l.take k)<10 ^ k:=by
 have:=numOf_lt _ h
 rwa [List.length_take,Nat.min_eq_left hk] at this
theorem isDig_iff (b:UInt8):isDig b=true↔48≤b.toNat∧b.toNat≤57:=by unfold isDig;simp
end Big
end Go.Proofs.YtaccjdbbkmhanaaGreatDoor
