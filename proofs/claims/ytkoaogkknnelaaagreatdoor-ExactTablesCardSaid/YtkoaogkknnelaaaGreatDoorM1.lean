set_option linter.unusedVariables false
set_option linter.unusedSimpArgs false
namespace Go.Proofs.YtkoaogkknnelaaaGreatDoor
namespace Big
theorem qaa:type_of% @List.getD_eq_getElem?_getD:=List.getD_eq_getElem?_getD
theorem qab:type_of% @Nat.le_refl:=Nat.le_refl
theorem qac:type_of% @List.length_append:=List.length_append
theorem qad:type_of% @List.getElem?_eq_getElem:=List.getElem?_eq_getElem
theorem qae:type_of% @Nat.le_trans:=Nat.le_trans
theorem qaf:type_of% @List.take_of_length_le:=List.take_of_length_le
theorem qag:type_of% @Nat.eq_zero_or_pos:=Nat.eq_zero_or_pos
theorem qah:type_of% @Nat.lt_or_ge:=Nat.lt_or_ge
theorem qai:type_of% @List.getElem?_append_right:=List.getElem?_append_right
theorem qaj:type_of% @Nat.zero_le:=Nat.zero_le
theorem qak:type_of% @Nat.le_succ:=Nat.le_succ
theorem qal:type_of% @List.length_singleton:=List.length_singleton
theorem qam:type_of% @List.length_take:=List.length_take
theorem qan:type_of% @Nat.lt_of_lt_of_le:=Nat.lt_of_lt_of_le
theorem qao:type_of% @List.append_assoc:=List.append_assoc
theorem qap:type_of% @List.eq_nil_of_length_eq_zero:=List.eq_nil_of_length_eq_zero
theorem qaq:type_of% @Int.toNat_natCast:=Int.toNat_natCast
theorem qar:type_of% @Option.some.injEq:=Option.some.injEq
theorem qas:type_of% @List.length_map:=List.length_map
theorem qat:type_of% @List.getElem?_append_left:=List.getElem?_append_left
theorem qau:type_of% @And.left:=And.left
theorem qav:type_of% @List.getElem?_eq_none:=List.getElem?_eq_none
theorem qaw:type_of% @List.getElem_mem:=List.getElem_mem
theorem qax:type_of% @Nat.mul_add:=Nat.mul_add
theorem qay:type_of% @Nat.pow_succ:=Nat.pow_succ
theorem qaz:type_of% @List.take_succ_eq_append_getElem:=List.take_succ_eq_append_getElem
theorem qaA:type_of% @Nat.mul_assoc:=Nat.mul_assoc
theorem qaB:type_of% @List.getElem?_eq_some_iff:=List.getElem?_eq_some_iff
theorem qaC:type_of% @List.length_cons:=List.length_cons
theorem qaD:type_of% @List.getD_cons_zero:=List.getD_cons_zero
theorem qaE:type_of% @Bool.true_and:=Bool.true_and
theorem qaF:type_of% @Nat.mul_le_mul_right:=Nat.mul_le_mul_right
theorem qaG:type_of% @Bool.not_false:=Bool.not_false
theorem qaH:type_of% @Nat.mul_le_mul_left:=Nat.mul_le_mul_left
theorem qaI:type_of% @Array.getElem?_setIfInBounds_ne:=Array.getElem?_setIfInBounds_ne
theorem qaJ:type_of% @Nat.mul_comm:=Nat.mul_comm
theorem qaK:type_of% @Nat.le_of_lt:=Nat.le_of_lt
theorem qaL:type_of% @Int.natAbs_natCast:=Int.natAbs_natCast
theorem qaM:type_of% @Bool.eq_iff_iff:=Bool.eq_iff_iff
theorem qaN:type_of% @Nat.add_zero:=Nat.add_zero
theorem qaO:type_of% @Nat.le_add_right:=Nat.le_add_right
theorem qaP:type_of% @List.getElem?_map:=List.getElem?_map
theorem qaQ:type_of% @List.mem_singleton:=List.mem_singleton
theorem qaR:type_of% @Nat.sub_self:=Nat.sub_self
theorem qaS:type_of% @List.drop_eq_nil_of_le:=List.drop_eq_nil_of_le
theorem qaT:type_of% @Bool.and_eq_true:=Bool.and_eq_true
theorem qaU:type_of% @List.nil_append:=List.nil_append
theorem qaV:type_of% @Bool.false_and:=Bool.false_and
theorem qaW:type_of% @Nat.zero_add:=Nat.zero_add
theorem qaX:type_of% @List.length_replicate:=List.length_replicate
theorem qaY:type_of% @Nat.add_mul:=Nat.add_mul
theorem qaZ:type_of% @List.length_nil:=List.length_nil
theorem qba:type_of% @Nat.mod_lt:=Nat.mod_lt
theorem qbb:type_of% @Nat.pow_pos:=Nat.pow_pos
theorem qbc:type_of% @List.map_append:=List.map_append
theorem qbd:type_of% @Bool.not_true:=Bool.not_true
theorem qbe:type_of% @Nat.pow_le_pow_right:=Nat.pow_le_pow_right
theorem qbf:type_of% @List.mem_of_getElem?:=List.mem_of_getElem?
theorem qbg:type_of% @Array.getElem?_eq_none:=Array.getElem?_eq_none
theorem qbh:type_of% @Option.some.inj:=Option.some.inj
theorem qbi:type_of% @List.not_mem_nil:=List.not_mem_nil
theorem qbj:type_of% @Nat.div_lt_of_lt_mul:=Nat.div_lt_of_lt_mul
theorem qbk:type_of% @Bool.false_eq_true:=Bool.false_eq_true
theorem qbl:type_of% @List.mem_cons:=List.mem_cons
theorem qbm:type_of% @List.length_set:=List.length_set
theorem qbn:type_of% @List.length_drop:=List.length_drop
theorem qbo:type_of% @Nat.one_mul:=Nat.one_mul
theorem qbp:type_of% @Nat.mul_one:=Nat.mul_one
theorem qbq:type_of% @List.set_append_right:=List.set_append_right
theorem qbr:type_of% @Nat.mul_zero:=Nat.mul_zero
theorem qbs:type_of% @Nat.div_le_self:=Nat.div_le_self
theorem qbt:type_of% @List.mem_append:=List.mem_append
theorem qbu:type_of% @Nat.add_sub_cancel_left:=Nat.add_sub_cancel_left
theorem qbv:type_of% @Bool.or_false:=Bool.or_false
theorem qbw:type_of% @List.take_zero:=List.take_zero
theorem qbx:type_of% @List.foldl_append:=List.foldl_append
theorem qby:type_of% @List.length_pos_iff:=List.length_pos_iff
theorem qbz:type_of% @Int.natCast_mul:=Int.natCast_mul
theorem qbA:type_of% @Nat.mod_eq_of_lt:=Nat.mod_eq_of_lt
theorem qbB:type_of% @Nat.div_eq_of_lt:=Nat.div_eq_of_lt
theorem qbC:type_of% @Nat.add_sub_cancel:=Nat.add_sub_cancel
theorem qbD:type_of% @List.cons_append:=List.cons_append
theorem qbE:type_of% @Nat.pow_add:=Nat.pow_add
theorem qbF:type_of% @Int.eq_ofNat_of_zero_le:=Int.eq_ofNat_of_zero_le
theorem qbG:type_of% @Nat.min_eq_left:=Nat.min_eq_left
theorem qbH:type_of% @List.append_nil:=List.append_nil
theorem qbI:type_of% @List.replicate_succ:=List.replicate_succ
theorem qbJ:type_of% @List.getD_cons_succ:=List.getD_cons_succ
theorem qbK:type_of% @Nat.lt_of_le_of_lt:=Nat.lt_of_le_of_lt
theorem qbL:type_of% @List.getElem?_toArray:=List.getElem?_toArray
theorem qbM:type_of% @Nat.add_comm:=Nat.add_comm
theorem qbN:type_of% @Bool.and_eq_true_iff:=Bool.and_eq_true_iff
theorem qbO:type_of% @Nat.add_assoc:=Nat.add_assoc
theorem qbP:type_of% @List.getElem_of_mem:=List.getElem_of_mem
theorem qbQ:type_of% @List.getElem?_replicate:=List.getElem?_replicate
theorem qbR:type_of% @List.all_eq_true:=List.all_eq_true
theorem qbS:type_of% @Int.natAbs_neg:=Int.natAbs_neg
theorem qbT:type_of% @Int.natAbs_mul:=Int.natAbs_mul
theorem qbU:type_of% @List.foldl_cons:=List.foldl_cons
theorem qbV:type_of% @List.take_append_drop:=List.take_append_drop
theorem qbW:type_of% @List.flatMap_cons:=List.flatMap_cons
theorem qbX:type_of% @Array.getElem?_setIfInBounds_self_of_lt:=Array.getElem?_setIfInBounds_self_of_lt
theorem qbY:type_of% @Nat.pow_mul:=Nat.pow_mul
theorem qbZ:type_of% @Nat.lt_of_mul_lt_mul_right:=Nat.lt_of_mul_lt_mul_right
theorem qca:type_of% @Array.getElem?_range:=Array.getElem?_range
theorem qcb:type_of% @List.take_succ_cons:=List.take_succ_cons
theorem qcc:type_of% @List.all_cons:=List.all_cons
theorem qcd:type_of% @Int.natCast_add:=Int.natCast_add
theorem qce:type_of% @List.set_cons_zero:=List.set_cons_zero
theorem qcf:type_of% @Nat.mul_le_mul:=Nat.mul_le_mul
theorem qcg:type_of% @Nat.lt_trichotomy:=Nat.lt_trichotomy
theorem qch:type_of% @Nat.div_div_eq_div_mul:=Nat.div_div_eq_div_mul
theorem qci:type_of% @List.length_eq_one_iff:=List.length_eq_one_iff
theorem qcj:type_of% @Nat.div_add_mod':=Nat.div_add_mod'
theorem qck:type_of% @Array.ext':=Array.ext'
theorem qcl:type_of% @Bool.or_eq_false_iff:=Bool.or_eq_false_iff
theorem qcm:type_of% @List.replicate_zero:=List.replicate_zero
theorem qcn:type_of% @Nat.pos_of_ne_zero:=Nat.pos_of_ne_zero
theorem qco:type_of% @List.drop_zero:=List.drop_zero
theorem qcp:type_of% @Array.getElem?_eq_some_iff:=Array.getElem?_eq_some_iff
theorem qcq:type_of% @List.drop_eq_getElem_cons:=List.drop_eq_getElem_cons
theorem qcr:type_of% @Nat.mul_pos:=Nat.mul_pos
theorem qcs:type_of% @Nat.mul_left_comm:=Nat.mul_left_comm
theorem qct:type_of% @List.ext_getElem?:=List.ext_getElem?
theorem qcu:type_of% @Int.neg_neg:=Int.neg_neg
theorem qcv:type_of% @List.getElem?_take_of_lt:=List.getElem?_take_of_lt
theorem qcw:type_of% @List.getElem?_cons_succ:=List.getElem?_cons_succ
theorem qcx:type_of% @List.drop_append:=List.drop_append
theorem qcy:type_of% @Nat.zero_mul:=Nat.zero_mul
theorem qcz:type_of% @List.mem_map:=List.mem_map
theorem qcA:type_of% @UInt8.toNat_inj:=UInt8.toNat_inj
theorem qcB:type_of% @Nat.mod_add_div:=Nat.mod_add_div
theorem qcC:type_of% @List.all_append:=List.all_append
def val:List Nat->Nat
 |[]=>0
 |x::xs=>x+4294967296*val xs
def Ok(xs:List Nat):Prop:=∀x∈xs,x<4294967296
def FF:Nat->Nat->List Nat
 |0,_=>[]
 |f+1,n=>if n=0 then [] else n % 4294967296::FF f (n / 4294967296)
def Ac(n:Nat):List Nat:=FF n n
theorem Qo(f:Nat):∀(g n:Nat),n<=f->n<=g->FF f n=FF g n:=by
 induction f with
 |zero=>intro g n h _;have:n=0:=by omega
        subst this;cases g<;>simp[FF]
 |succ f ih=>
  intro g n hf hg;cases g with
  |zero=>have:n=0:=by omega
         subst this;simp[FF]
  |succ g=>
   simp only[FF];split
   ·rfl
   ·rw[ih g (n / 4294967296) (by omega) (by omega)]
theorem Be:Ac 0=[]:=rfl
theorem CD(n:Nat)(h:n≠0):Ac n=n % 4294967296::Ac (n / 4294967296):=by
 obtain⟨m,rfl⟩:∃m,n=m+1:=⟨n-1,by omega⟩;unfold Ac;rw[FF,if_neg h,Qo m ((m+1) / 4294967296) _ (by omega) (qab _)]
theorem JL(x n:Nat)(hx:x<4294967296)(h:x+4294967296*n≠0):Ac (x+4294967296*n)=x::Ac n:=by
 rw[CD _ h];have h1:(x+4294967296*n) % 4294967296=x:=by omega
 have h2:(x+4294967296*n) / 4294967296=n:=by omega
 rw[h1,h2]
theorem Cq:Ok []:=fun _ h=>by cases h
theorem DA{x:Nat}{xs:List Nat}(hx:x<4294967296)(h:Ok xs):Ok (x::xs):=fun y hy=>by
 cases hy with
 |head=>exact hx
 |tail _ h'=>exact h y h'
theorem Ok.head{x:Nat}{xs:List Nat}(h:Ok (x::xs)):x<4294967296:=h x (by simp)
theorem Ok.tail{x:Nat}{xs:List Nat}(h:Ok (x::xs)):Ok xs:=fun y hy=>h y (by simp[hy])
theorem Ok.append{xs ys:List Nat}(h:Ok xs)(k:Ok ys):Ok (xs++ys):=fun y hy=>by
 rcases qbt.1 hy with h1|h1
 ·exact h y h1
 ·exact k y h1
theorem Ok.take{xs:List Nat}(h:Ok xs)(n:Nat):Ok (xs.take n):=fun y hy=>h y (List.mem_of_mem_take hy)
theorem Ok.drop{xs:List Nat}(h:Ok xs)(n:Nat):Ok (xs.drop n):=fun y hy=>h y (List.mem_of_mem_drop hy)
theorem Ok.get{xs:List Nat}(h:Ok xs)(i:Nat):xs.getD i 0<4294967296:=by
 rw[qaa];cases hx:xs[i]? with
 |none=>simp
 |some x=>exact h x (qbf hx)
theorem Cw(n:Nat):Ok (Ac n):=by
 induction n using Nat.strongRecOn with
 |_ n ih=>
  by_cases h:n=0
  ·subst h;exact Cq
  ·rw[CD n h];exact DA (by omega) (ih _ (by omega))
theorem Ad(n:Nat):val (Ac n)=n:=by
 induction n using Nat.strongRecOn with
 |_ n ih=>
  by_cases h:n=0
  ·subst h;rfl
  ·rw[CD n h,val,ih _ (by omega)];omega
theorem D8(xs ys:List Nat):val (xs++ys)=val xs+4294967296 ^ xs.length*val ys:=by
 induction xs with
 |nil=>simp[val]
 |cons x xs ih=>
  rw[qbD,val,val,ih,qaC,qay,qax,<-qaA,qaJ 4294967296 (4294967296 ^ xs.length)];omega
theorem Hp(k:Nat):val (List.replicate k 0)=0:=by
 induction k with
 |zero=>rfl
 |succ k ih=>rw[qbI,val,ih]
theorem Cm{xs:List Nat}(h:Ok xs):val xs<4294967296 ^ xs.length:=by
 induction xs with
 |nil=>simp[val]
 |cons x xs ih=>
  have h1:=ih h.tail;have h2:=h.head;rw[val,qaC,qay];have h3:val xs+1<=4294967296 ^ xs.length:=h1;have h4:=qaH 4294967296 h3;rw[qaJ (4294967296 ^ xs.length)];omega
def size:List Nat->Nat
 |[]=>0
 |x::xs=>if size xs=0 then (if x=0 then 0 else 1) else size xs+1
theorem CG(xs:List Nat):size xs<=xs.length:=by
 induction xs with
 |nil=>simp[size]
 |cons x xs ih=>rw[size,qaC];split<;>(try split)<;>omega
theorem Ht{xs:List Nat}(h:size xs=0):val xs=0:=by
 induction xs with
 |nil=>rfl
 |cons x xs ih=>
  rw[size]at h;split at h
  ·rename_i h0;split at h
   ·rename_i hx;rw[val,ih h0,hx]
   ·omega
  ·omega
theorem L5{xs:List Nat}(h:val xs=0):size xs=0:=by
 induction xs with
 |nil=>rfl
 |cons x xs ih=>
  rw[val]at h;rw[size,ih (by omega),if_pos rfl,if_pos (by omega)]
theorem Cf{xs:List Nat}(h:Ok xs):xs.take (size xs)=Ac (val xs):=by
 induction xs with
 |nil=>rfl
 |cons x xs ih=>
  have h1:=ih h.tail;by_cases h0:size xs=0
  ·have hv:=Ht h0;rw[size,if_pos h0,val,hv];split
   ·rename_i hx;subst hx;rfl
   ·rename_i hx;rw[JL _ _ h.head (by omega)];rfl
  ·have hv:val xs≠0:=fun e=>h0 (L5 e)
   rw[size,if_neg h0,val,JL _ _ h.head (by omega),<-h1];rfl
theorem Lf{xs:List Nat}(h:Ok xs):size xs=(Ac (val xs)).length:=by
 rw[<-Cf h,qam,qbG (CG xs)]
theorem Jf(xs:List Nat)(n:Nat)(hn:n<=xs.length)(hz:∀i,n<=i->xs.getD i 0=0)(ht:0<n->xs.getD (n-1) 0≠0):size xs=n:=by
 induction xs generalizing n with
 |nil=>simp at hn;subst hn;rfl
 |cons x xs ih=>
  cases n with
  |zero=>
   have h0:=ih 0 (qaj _) (fun i _=>by have:=hz (i+1) (qaj _);simpa using this) (by omega);have hx:x=0:=by have:=hz 0 (qab _);simpa using this
   rw[size,if_pos h0,if_pos hx]
  |succ n=>
   have h0:=ih n (by simpa using hn) (fun i hi=>by have:=hz (i+1) (by omega);simpa using this) (fun hp=>by
    have:=ht (by omega);obtain⟨m,rfl⟩:∃m,n=m+1:=⟨n-1,by omega⟩
    simpa using this)
   rw[size];split
   ·rename_i h1;have om:n=0:=by omega
    subst om;have:=ht (by omega);rw[if_neg (by simpa using this)]
   ·omega
theorem AH{n k:Nat}(h:n<4294967296 ^ k):(Ac n).length<=k:=by
 induction k generalizing n with
 |zero=>have:n=0:=by omega
        subst this;simp[Be]
 |succ k ih=>
  by_cases h0:n=0
  ·subst h0;simp[Be]
  ·rw[CD n h0,qaC];have h1:n / 4294967296<4294967296 ^ k:=by
    rw[qay,qaJ]at h;exact qbj h
   have:=ih h1;omega
theorem Aq{xs:List Nat}(h:Ok xs):(Ac (val xs)).length<=xs.length:=AH (Cm h)
theorem Bw{n:Nat}:Ac n=[]↔n=0:=by
 constructor
 ·intro h;by_cases h0:n=0
  ·exact h0
  ·rw[CD n h0]at h;cases h
 ·rintro rfl;rfl
theorem F2(xs:List Nat)(i:Nat)(h:i<xs.length):val (xs.take (i+1))=val (xs.take i)+4294967296 ^ i*xs.getD i 0:=by
 rw[qaz h,D8,qam,qbG (by omega),qaa,qad h];simp[val]
theorem LY(xs:List Nat)(i:Nat)(h:i<xs.length):val (xs.drop i)=xs.getD i 0+4294967296*val (xs.drop (i+1)):=by
 rw[qcq h,val,qaa,qad h];rfl
theorem Ks(xs:List Nat)(i:Nat)(h:i<=xs.length):val xs=val (xs.take i)+4294967296 ^ i*val (xs.drop i):=by
 have:=D8 (xs.take i) (xs.drop i);rw[qbV,qam,qbG h]at this;exact this
theorem BS(ys:List Nat)(y:Nat):val (ys++[y])=val ys+4294967296 ^ ys.length*y:=by
 rw[D8];simp[val]
theorem Je(xs ys:List Nat)(k m c cy:Nat)(hk:k<xs.length)(hl:ys.length=k)(h:val ys+4294967296 ^ k*cy=val (xs.take k)*m+c):
  val (ys++[(cy+xs.getD k 0*m) % 4294967296])+4294967296 ^ (k+1)*((cy+xs.getD k 0*m) / 4294967296)=val (xs.take (k+1))*m+c:=by
 rw[BS,F2 xs k hk,hl,qay,qaY,qaA (4294967296 ^ k) 4294967296,qbO,<-qax,qcB,qax,qaA];omega
theorem I0{x m:Nat}(hx:x<4294967296)(hm:m<4294967296):x*m<=18446744065119617025:=
 qae (qcf (Nat.le_sub_one_of_lt hx) (Nat.le_sub_one_of_lt hm)) (by decide)
theorem RR(xs qs:List Nat)(k d r:Nat)(hk:k<xs.length)(h:val qs*d+r=val (xs.drop (k+1))):
  val ((r*4294967296+xs.getD k 0) / d::qs)*d+(r*4294967296+xs.getD k 0) % d=val (xs.drop k):=by
 rw[LY xs k hk,<-h,val,qaY,qax,qaA];have:=qcj (r*4294967296+xs.getD k 0) d;omega
theorem Uu{r d x:Nat}(hr:r<d)(hx:x<4294967296):(r*4294967296+x) / d<4294967296:=by
 have h1:r*4294967296+x<d*4294967296:=by omega
 exact qbj h1
theorem Ln{q d r n:Nat}(hd:r<d)(h:q*d+r=n):q=n / d/\r=n % d:=by
 have h0:0<d:=by omega
 subst h;refine⟨?_,?_⟩
 ·rw[qbM,Nat.add_mul_div_right _ _ h0,qbB hd,qaW]
 ·rw[qbM,Nat.add_mul_mod_self_right,qbA hd]
theorem Dh(xs:List Nat)(i:Nat)(h:xs.length<=i):xs.getD i 0=0:=by
 rw[qaa,qav h];rfl
theorem Bl(xs:List Nat)(i:Nat):val (xs.drop i)=xs.getD i 0+4294967296*val (xs.drop (i+1)):=by
 rcases qah i xs.length with h|h
 ·exact LY xs i h
 ·rw[qaS h,qaS (by omega),Dh xs i h];rfl
theorem Bt(xs:List Nat)(i:Nat):val xs=val (xs.take i)+4294967296 ^ i*val (xs.drop i):=by
 rcases qah i xs.length with h|h
 ·exact Ks xs i (by omega)
 ·rw[qaS h,qaf h];simp[val]
theorem By(xs:List Nat)(i:Nat):val (xs.take (i+1))=val (xs.take i)+4294967296 ^ i*xs.getD i 0:=by
 rcases qah i xs.length with h|h
 ·exact F2 xs i h
 ·rw[qaf (by omega),qaf h,Dh xs i h];simp
theorem Eb{i j:Nat}(h:i<=j):4294967296 ^ i<=4294967296 ^ j:=qbe (by omega) h
theorem Fw(i:Nat):0<4294967296 ^ i:=qbb (by omega)
theorem BU{xs:List Nat}(h:Ok xs)(i:Nat):val (xs.take i)<4294967296 ^ i:=
 qan (Cm (h.take i)) (Eb (List.length_take_le _ _))
theorem T1{xs ys:List Nat}(hx:Ok xs)(i:Nat)(h:val (xs.drop i)<val (ys.drop i)):val xs<val ys:=by
 rw[Bt xs i,Bt ys i];have h1:=BU hx i;have h2:=qaH (4294967296 ^ i) (show val (xs.drop i)+1<=val (ys.drop i) from h);rw[qax,qbp]at h2;omega
theorem He{xs ys:List Nat}(hx:Ok xs)(i:Nat)(h:val (xs.drop (i+1))=val (ys.drop (i+1)))(hlt:xs.getD i 0<ys.getD i 0):val xs<val ys:=
 T1 hx i (by rw[Bl xs,Bl ys,h];omega)
theorem MU{xs ys:List Nat}(i:Nat)(h:val (xs.drop (i+1))=val (ys.drop (i+1)))(he:xs.getD i 0=ys.getD i 0):val (xs.drop i)=val (ys.drop i):=by
 rw[Bl xs,Bl ys,h,he]
def BZ(a b:Nat):Int:=if a<b then-1 else if b<a then 1 else 0
theorem Ff{a b:Nat}(h:a<b):BZ a b= -1:=if_pos h
theorem LK{a b:Nat}(h:b<a):BZ a b=1:=by unfold BZ;rw[if_neg (by omega),if_pos h]
theorem LL{a b:Nat}(h:a=b):BZ a b=0:=by unfold BZ;rw[if_neg (by omega),if_neg (by omega)]
theorem Ei{a b:Nat}:BZ a b<0↔a<b:=by unfold BZ;split<;>(try split)<;>omega
theorem L3 {as bs zs:List Nat} {k c z c':Nat} (hl:zs.length=k) (h:val (as.take k)+4294967296 ^ k*c=val zs+val (bs.take k))
  (hz:as.getD k 0+4294967296*c'=z+bs.getD k 0+c):val (as.take (k+1))+4294967296 ^ (k+1)*c'=val (zs++[z])+val (bs.take (k+1)):=by
 rw[By,By,BS,hl,qay,qaA];have h1:=congrArg (4294967296 ^ k*·) hz;simp only[qax]at h1;omega
theorem OM {as bs zs:List Nat} {n c:Nat} (ha:Ok as) (hz:Ok zs) (hn:as.drop n=[]\/val (as.drop n)=0) (hl:zs.length=n) (cH:val bs<=val as)
  (h:val (as.take n)+4294967296 ^ n*c=val zs+val (bs.take n)):val zs=val as-val bs:=by
 have h0:val (as.drop n)=0:=by rcases hn with h1|h1<;>simp[h1,val]
 have h1:=Bt as n;have h2:=Bt bs n;have h3:=BU ha n;have h4:=Cm hz;rw[hl]at h4;rw[h0,qbr]at h1;rcases qag (val (bs.drop n)) with h5|h5
 ·rw[h5,qbr]at h2;rcases qag c with h6|h6
  ·subst h6;omega
  ·have:=qaH (4294967296 ^ n) h6;omega
 ·have:=qaH (4294967296 ^ n) h5;omega
theorem J3 {as bs zs:List Nat} {k c t:Nat} (hl:zs.length=k) (h:val zs+4294967296 ^ k*c=val (as.take k)+val (bs.take k))
  (ht:t=c+as.getD k 0+bs.getD k 0):val (zs++[t % 4294967296])+4294967296 ^ (k+1)*(t / 4294967296)=val (as.take (k+1))+val (bs.take (k+1)):=by
 rw[By,By,BS,hl,qay,qaA,qbO,<-qax,qcB,ht,qax,qax];omega
theorem OI(os:List Nat)(j y:Nat)(h:j<os.length):val (os.set j y)+4294967296 ^ j*os.getD j 0=val os+4294967296 ^ j*y:=by
 induction os generalizing j with
 |nil=>simp at h
 |cons o os ih=>
  cases j with
  |zero=>simp[val];omega
  |succ j=>
   have:=ih j (by simpa using h);simp only[List.set_cons_succ,val,qbJ,qay];rw[qaJ (4294967296 ^ j) 4294967296,qaA,qaA];have h1:=congrArg (4294967296*·) this;simp only[qax]at h1;omega
theorem Ok.set{xs:List Nat}(h:Ok xs)(j:Nat){y:Nat}(hy:y<4294967296):Ok (xs.set j y):=fun x hx=>by
 rcases List.mem_or_eq_of_mem_set hx with h1|h1
 ·exact h x h1
 ·omega
theorem Sf {os bs:List Nat} {i k c x N t:Nat} (hj:i+k<os.length) (h:val os+4294967296 ^ (i+k)*c=N+4294967296 ^ i*(x*val (bs.take k)))
  (ht:t=c+(x*bs.getD k 0+os.getD (i+k) 0)):
  val (os.set (i+k) (t % 4294967296))+4294967296 ^ (i+(k+1))*(t / 4294967296)=N+4294967296 ^ i*(x*val (bs.take (k+1))):=by
 have h1:=OI os (i+k) (t % 4294967296) hj;have h2:4294967296 ^ (i+k)*(t % 4294967296)+4294967296 ^ (i+(k+1))*(t / 4294967296)=4294967296 ^ (i+k)*t:=by
  rw[<-qbO,qay,qaA,<-qax,qcB]
 have h3:4294967296 ^ (i+k)*t=4294967296 ^ (i+k)*c+(4294967296 ^ (i+k)*(x*bs.getD k 0)+4294967296 ^ (i+k)*os.getD (i+k) 0):=by
  rw[ht,qax,qax]
 have h4:4294967296 ^ i*(x*val (bs.take (k+1)))=4294967296 ^ i*(x*val (bs.take k))+4294967296 ^ (i+k)*(x*bs.getD k 0):=by
  rw[By,qax,qax,qbE,qcs x,qaA]
 omega
theorem Tz{os:List Nat}{j c N:Nat}(hj:j<os.length)(h0:os.getD j 0=0)(h:val os+4294967296 ^ j*c=N):val (os.set j c)=N:=by
 have h1:=OI os j c hj;rw[h0]at h1;omega
theorem IF(os:List Nat)(i j y:Nat)(h:i≠j):(os.set i y).getD j 0=os.getD j 0:=by
 rw[qaa,qaa,List.getElem?_set_ne h]
theorem Du{xs:List Nat}(h:Ok xs){m c:Nat}(hm:m<4294967296)(hc:c<4294967296):(Ac (val xs*m+c)).length<=xs.length+1:=by
 refine AH ?_
 have h1:=Cm h;rw[qay];have h6:(val xs+1)*4294967296<=4294967296 ^ xs.length*4294967296:=qaF _ (Nat.succ_le_of_lt h1);have h7:val xs*m<=val xs*4294967295:=qaH _ (by omega);omega
theorem IU{n:Nat}{ys:List Nat}(h:Ok ys)(hn:n<=val ys):(Ac n).length<=ys.length:=AH (qbK hn (Cm h))
theorem Oz{b r l:Nat}(h1:b*l<=r)(h2:r<b*(l+1)):l=r / b:=by
 have hb:0<b:=by
  rcases qag b with h|h
  ·subst h;simp at h2
  ·exact h
 refine(Nat.div_eq_of_lt_le ?_ ?_).symm
 ·rw[qaJ];exact h1
 ·rw[qaJ];exact h2
theorem SJ{xs qs:List Nat}{k b r:Nat}(h:val qs*b+r=val (xs.drop (k+1))):
  val ((xs.getD k 0+4294967296*r) / b::qs)*b+(xs.getD k 0+4294967296*r) % b=val (xs.drop k):=by
 rw[Bl xs k,<-h,val,qaY,qax,qaA];have:=qcj (xs.getD k 0+4294967296*r) b;omega
theorem UC{r b x:Nat}(hr:r<b)(hx:x<4294967296):(x+4294967296*r) / b<4294967296:=by
 refine qbj ?_
 have:4294967296*(r+1)<=4294967296*b:=qaH _ hr;rw[qaJ b];omega
theorem JM{ys:List Nat}{n:Nat}(h:Ok ys)(hn:n<val ys*4294967296):(Ac n).length<=ys.length+1:=by
 refine AH ?_
 rw[qay];exact qan hn (qaF _ (qaK (Cm h)))
theorem QO{x r b:Nat}(hr:r<b)(hx:x<4294967296):x+4294967296*r<b*4294967296:=by
 have:4294967296*(r+1)<=4294967296*b:=qaH _ hr;omega
def U0:Nat->Nat->List UInt8
 |0,_=>[]
 |f+1,n=>if n=0 then [] else UInt8.ofNat (48+n % 10)::U0 f (n / 10)
def low(n:Nat):List UInt8:=U0 n n
def dec(n:Nat):List UInt8:=if n=0 then [48] else (low n).reverse
def BA(c:UInt8):Bool:=decide (48<=c.toNat) && decide (c.toNat<=57)
def Bo(l:List UInt8):Nat:=l.foldl (fun n c=>10*n+(c.toNat-48)) 0
theorem N9(l:List UInt8)(c:UInt8):Bo (l++[c])=10*Bo l+(c.toNat-48):=by
 unfold Bo;rw[qbx];rfl
theorem JE(l:List UInt8)(k:Nat)(h:k<l.length):Bo (l.take (k+1))=10*Bo (l.take k)+(l[k].toNat-48):=by
 rw[qaz h,N9]
theorem GP(l:List UInt8)(h:l.all BA=true):Bo l<10 ^ l.length:=by
 have key:∀(l:List UInt8) (n k:Nat),l.all BA=true->n<10 ^ k->l.foldl (fun n c=>10*n+(c.toNat-48)) n<10 ^ (k+l.length):=by
  intro l
  induction l with
  |nil=>intro n k _ hn;simpa using hn
  |cons c l ih=>
   intro n k ha hn;rw[qcc,qaT]at ha;have hc:=ha.1;unfold BA at hc;simp at hc;rw[qbU,qaC];have:=ih (10*n+(c.toNat-48)) (k+1) ha.2 (by rw[qay];omega);rw[show k+1+l.length=k+(l.length+1) by omega]at this;exact this
 have:=key l 0 0 h (by simp)
 simpa [Bo] using this
def I3(l:List UInt8):Nat × Nat:=
 if 20001<l.length then (0,7)
 else if l=[] then (0,6)
 else if l[0]? =some 48/\1<l.length then (0,6)
 else if l.all BA then (Bo l,0) else (0,6)
theorem Rd(l:List UInt8)(k:Nat)(h:k<l.length):(l.take (k+1)).all BA=((l.take k).all BA && BA l[k]):=by
 rw[qaz h,qcC];simp
theorem LP{l:List UInt8}{k:Nat}(h:k<l.length)(hf:BA l[k]=false):l.all BA=false:=by
 rw[List.all_eq_false];exact⟨l[k],qaw h,by simp[hf]⟩
theorem MM{a s c n d:Nat}(h:n=a*s+c):10*n+d=a*(10*s)+(10*c+d):=by
 rw[h,qax,qcs];omega
theorem Kf{j:Nat}(h:j<=8):10 ^ j<=100000000:=by
 have:=qbe (show 0<10 by omega) h;exact this
theorem Pk{j:Nat}(h:j<=8):(10*10 ^ j=1000000000)↔j=8:=by
 have:j=0\/j=1\/j=2\/j=3\/j=4\/j=5\/j=6\/j=7\/j=8:=by omega
 rcases this with rfl|rfl|rfl|rfl|rfl|rfl|rfl|rfl|rfl<;>simp
theorem Km{a k:Nat}(h:a<10 ^ k):(Ac a).length<=k:=
 AH (qan h (Nat.pow_le_pow_left (by omega) k))
theorem Ii{l:List UInt8}{k:Nat}(h:(l.take k).all BA=true)(hk:k<=l.length):Bo (l.take k)<10 ^ k:=by
 have:=GP _ h
 rwa [qam,qbG hk]at this
theorem Qu(b:UInt8):BA b=true↔48<=b.toNat/\b.toNat<=57:=by unfold BA;simp
def DL(a r:Nat):Prop:=r*r<=a/\a<(r+1)*(r+1)
theorem Ro{a b:Nat}(h:a*a<b*b):a<b:=by
 rcases qah a b with h1|h1
 ·exact h1
 ·have:=qcf h1 h1;omega
theorem DL.uniq{a r r':Nat}(h:DL a r)(h':DL a r'):r=r':=by
 have h1:=Ro (qbK h.1 h'.2);have h2:=Ro (qbK h'.1 h.2);omega
theorem DL.sq(r:Nat):DL (r*r) r:=⟨qab _,by rw[qaY,qax];omega⟩
theorem DL.rest{a r:Nat}(h:DL a r):a-r*r=0↔a=r*r:=by have:=h.1;omega
theorem Nr(s x:Nat):2*(s*x)<=s*s+x*x:=by
 rcases Nat.le_total s x with h|h
 ·obtain⟨d,rfl⟩:=Nat.exists_eq_add_of_le h;simp only[qax,qaY];rw[qaJ d s];omega
 ·obtain⟨d,rfl⟩:=Nat.exists_eq_add_of_le h;simp only[qax,qaY];rw[qaJ d x];omega
theorem Oa{a x s:Nat}(hx:0<x)(hs:s*s<=a):s<=(x+a / x) / 2:=by
 have h1:2*s<=(a+x*x) / x:=by
  rw[Nat.le_div_iff_mul_le hx];have:=Nr s x;rw[qaA];omega
 rw[Nat.add_mul_div_right _ _ hx]at h1;omega
theorem Mw{a x:Nat}(hx:0<x)(h:x<=(x+a / x) / 2):x*x<=a:=by
 have h1:x<=a / x:=by omega
 exact(Nat.le_div_iff_mul_le hx).1 h1
theorem Ob{a x:Nat}(fl:∀s,s*s<=a->s<=x)(h:x*x<=a):DL a x:=by
 refine⟨h,?_⟩;rcases qah a ((x+1)*(x+1)) with h1|h1
 ·exact h1
 ·have:=fl _ h1;omega
theorem Ly{a x:Nat}(h:a<x*x):∀s,s*s<=a->s<=x:=fun _s hs=>qaK (Ro (qbK hs h))
theorem L9{a r i:Nat}(_h1:r*r<=a)(h2:a<(r+2 ^ (i+1))*(r+2 ^ (i+1))):
  ((r+2 ^ i)*(r+2 ^ i)<=a->a<(r+2 ^ i+2 ^ i)*(r+2 ^ i+2 ^ i)):=by
 intro _;rw[qbO,<-Nat.two_mul,qaJ 2,<-qay];exact h2
theorem Sy(b:Nat):2 ^ b<=2 ^ (b / 2+1)*2 ^ (b / 2+1):=by
 rw[<-qbE];exact qbe (by omega) (by omega)
theorem QA(b:Nat):2 ^ b<=2 ^ ((b+1) / 2)*2 ^ ((b+1) / 2):=by
 rw[<-qbE];exact qbe (by omega) (by omega)
theorem DL.zero:DL 0 0:=⟨qab _,by decide⟩
theorem DL.le{a r:Nat}(h:DL a r):r<=a:=by
 rcases qag r with h0|h0
 ·omega
 ·exact qae (Nat.le_mul_of_pos_left r h0) h.1
end Big
end Go.Proofs.YtkoaogkknnelaaaGreatDoor
