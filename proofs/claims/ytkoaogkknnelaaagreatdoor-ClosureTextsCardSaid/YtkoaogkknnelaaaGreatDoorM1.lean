set_option linter.unusedVariables false
set_option linter.unusedSimpArgs false
namespace Go.Proofs.YtkoaogkknnelaaaGreatDoor
namespace Big
theorem qaa:type_of% @List.getElem?_eq_getElem:=List.getElem?_eq_getElem
theorem qab:type_of% @List.length_append:=List.length_append
theorem qac:type_of% @List.getD_eq_getElem?_getD:=List.getD_eq_getElem?_getD
theorem qad:type_of% @Nat.le_refl:=Nat.le_refl
theorem qae:type_of% @List.length_singleton:=List.length_singleton
theorem qaf:type_of% @Nat.le_trans:=Nat.le_trans
theorem qag:type_of% @List.length_map:=List.length_map
theorem qah:type_of% @List.take_succ_eq_append_getElem:=List.take_succ_eq_append_getElem
theorem qai:type_of% @List.getElem?_eq_some_iff:=List.getElem?_eq_some_iff
theorem qaj:type_of% @Nat.lt_of_lt_of_le:=Nat.lt_of_lt_of_le
theorem qak:type_of% @List.take_of_length_le:=List.take_of_length_le
theorem qal:type_of% @Nat.zero_le:=Nat.zero_le
theorem qam:type_of% @Nat.lt_or_ge:=Nat.lt_or_ge
theorem qan:type_of% @List.append_assoc:=List.append_assoc
theorem qao:type_of% @List.getElem?_append_right:=List.getElem?_append_right
theorem qap:type_of% @List.getElem_mem:=List.getElem_mem
theorem qaq:type_of% @Int.toNat_natCast:=Int.toNat_natCast
theorem qar:type_of% @Nat.eq_zero_or_pos:=Nat.eq_zero_or_pos
theorem qas:type_of% @List.length_take:=List.length_take
theorem qat:type_of% @List.length_cons:=List.length_cons
theorem qau:type_of% @List.eq_nil_of_length_eq_zero:=List.eq_nil_of_length_eq_zero
theorem qav:type_of% @List.mem_singleton:=List.mem_singleton
theorem qaw:type_of% @Option.some.injEq:=Option.some.injEq
theorem qax:type_of% @List.mem_append:=List.mem_append
theorem qay:type_of% @List.mem_cons:=List.mem_cons
theorem qaz:type_of% @List.getElem?_eq_none:=List.getElem?_eq_none
theorem qaA:type_of% @Option.some.inj:=Option.some.inj
theorem qaB:type_of% @List.map_append:=List.map_append
theorem qaC:type_of% @List.getElem?_append_left:=List.getElem?_append_left
theorem qaD:type_of% @List.getElem?_map:=List.getElem?_map
theorem qaE:type_of% @List.length_nil:=List.length_nil
theorem qaF:type_of% @Nat.zero_add:=Nat.zero_add
theorem qaG:type_of% @List.nil_append:=List.nil_append
theorem qaH:type_of% @Bool.not_false:=Bool.not_false
theorem qaI:type_of% @Nat.mul_add:=Nat.mul_add
theorem qaJ:type_of% @List.filter_cons_of_pos:=List.filter_cons_of_pos
theorem qaK:type_of% @List.take_zero:=List.take_zero
theorem qaL:type_of% @List.length_replicate:=List.length_replicate
theorem qaM:type_of% @Bool.and_eq_true:=Bool.and_eq_true
theorem qaN:type_of% @Nat.mul_le_mul_left:=Nat.mul_le_mul_left
theorem qaO:type_of% @List.foldl_append:=List.foldl_append
theorem qaP:type_of% @List.filter_cons_of_neg:=List.filter_cons_of_neg
theorem qaQ:type_of% @Bool.true_and:=Bool.true_and
theorem qaR:type_of% @Nat.le_of_lt:=Nat.le_of_lt
theorem qaS:type_of% @List.drop_eq_nil_of_le:=List.drop_eq_nil_of_le
theorem qaT:type_of% @List.mem_append_left:=List.mem_append_left
theorem qaU:type_of% @List.length_drop:=List.length_drop
theorem qaV:type_of% @Nat.min_eq_left:=Nat.min_eq_left
theorem qaW:type_of% @List.append_nil:=List.append_nil
theorem qaX:type_of% @Nat.sub_self:=Nat.sub_self
theorem qaY:type_of% @Nat.mul_assoc:=Nat.mul_assoc
theorem qaZ:type_of% @Nat.pow_succ:=Nat.pow_succ
theorem qba:type_of% @Array.getElem?_eq_none:=Array.getElem?_eq_none
theorem qbb:type_of% @Nat.mul_comm:=Nat.mul_comm
theorem qbc:type_of% @Nat.add_zero:=Nat.add_zero
theorem qbd:type_of% @List.foldl_cons:=List.foldl_cons
theorem qbe:type_of% @Bool.not_true:=Bool.not_true
theorem qbf:type_of% @Nat.mul_le_mul_right:=Nat.mul_le_mul_right
theorem qbg:type_of% @Bool.false_eq_true:=Bool.false_eq_true
theorem qbh:type_of% @Bool.false_and:=Bool.false_and
theorem qbi:type_of% @Bool.eq_iff_iff:=Bool.eq_iff_iff
theorem qbj:type_of% @Nat.mul_one:=Nat.mul_one
theorem qbk:type_of% @List.set_append_right:=List.set_append_right
theorem qbl:type_of% @Nat.mod_lt:=Nat.mod_lt
theorem qbm:type_of% @Nat.add_mul:=Nat.add_mul
theorem qbn:type_of% @And.left:=And.left
theorem qbo:type_of% @List.take_append_drop:=List.take_append_drop
theorem qbp:type_of% @Nat.mod_eq_of_lt:=Nat.mod_eq_of_lt
theorem qbq:type_of% @Nat.add_sub_cancel_left:=Nat.add_sub_cancel_left
theorem qbr:type_of% @List.take_length:=List.take_length
theorem qbs:type_of% @List.mem_cons_of_mem:=List.mem_cons_of_mem
theorem qbt:type_of% @List.cons_append:=List.cons_append
theorem qbu:type_of% @Bool.and_eq_true_iff:=Bool.and_eq_true_iff
theorem qbv:type_of% @Bool.or_false:=Bool.or_false
theorem qbw:type_of% @Nat.pow_le_pow_right:=Nat.pow_le_pow_right
theorem qbx:type_of% @Nat.div_lt_of_lt_mul:=Nat.div_lt_of_lt_mul
theorem qby:type_of% @List.getElem_of_mem:=List.getElem_of_mem
theorem qbz:type_of% @Nat.mul_zero:=Nat.mul_zero
theorem qbA:type_of% @List.getElem_cons_zero:=List.getElem_cons_zero
theorem qbB:type_of% @Nat.pow_pos:=Nat.pow_pos
theorem qbC:type_of% @Nat.one_mul:=Nat.one_mul
theorem qbD:type_of% @Nat.lt_of_le_of_lt:=Nat.lt_of_le_of_lt
theorem qbE:type_of% @Nat.add_sub_cancel:=Nat.add_sub_cancel
theorem qbF:type_of% @List.set_cons_zero:=List.set_cons_zero
theorem qbG:type_of% @List.pairwise_cons:=List.pairwise_cons
theorem qbH:type_of% @Nat.div_eq_of_lt:=Nat.div_eq_of_lt
theorem qbI:type_of% @List.all_eq_true:=List.all_eq_true
theorem qbJ:type_of% @List.mem_map:=List.mem_map
theorem qbK:type_of% @List.mem_append_right:=List.mem_append_right
theorem qbL:type_of% @List.getElem?_toArray:=List.getElem?_toArray
theorem qbM:type_of% @List.flatMap_cons:=List.flatMap_cons
theorem qbN:type_of% @Nat.lt_of_mul_lt_mul_right:=Nat.lt_of_mul_lt_mul_right
theorem qbO:type_of% @Array.getElem?_range:=Array.getElem?_range
theorem qbP:type_of% @List.not_mem_nil:=List.not_mem_nil
theorem qbQ:type_of% @List.drop_eq_getElem_cons:=List.drop_eq_getElem_cons
theorem qbR:type_of% @List.take_succ_cons:=List.take_succ_cons
theorem qbS:type_of% @List.replicate_succ:=List.replicate_succ
theorem qbT:type_of% @Nat.add_assoc:=Nat.add_assoc
theorem qbU:type_of% @List.map_cons:=List.map_cons
theorem qbV:type_of% @List.all_cons:=List.all_cons
theorem qbW:type_of% @ByteArray.ext:=ByteArray.ext
theorem qbX:type_of% @List.length_set:=List.length_set
theorem qbY:type_of% @Option.isSome_none:=Option.isSome_none
theorem qbZ:type_of% @List.getElem?_replicate:=List.getElem?_replicate
theorem qca:type_of% @Nat.lt_trichotomy:=Nat.lt_trichotomy
theorem qcb:type_of% @List.ext_getElem?:=List.ext_getElem?
theorem qcc:type_of% @Array.getElem?_toList:=Array.getElem?_toList
theorem qcd:type_of% @Option.getD_none:=Option.getD_none
theorem qce:type_of% @Nat.div_add_mod':=Nat.div_add_mod'
theorem qcf:type_of% @List.prefix_refl:=List.prefix_refl
theorem qcg:type_of% @Array.ext':=Array.ext'
theorem qch:type_of% @Bool.or_eq_false_iff:=Bool.or_eq_false_iff
theorem qci:type_of% @List.replicate_zero:=List.replicate_zero
theorem qcj:type_of% @List.length_pos_iff:=List.length_pos_iff
theorem qck:type_of% @Nat.add_comm:=Nat.add_comm
theorem qcl:type_of% @List.map_nil:=List.map_nil
theorem qcm:type_of% @List.getElem?_take:=List.getElem?_take
theorem qcn:type_of% @List.foldl_nil:=List.foldl_nil
theorem qco:type_of% @List.drop_zero:=List.drop_zero
theorem qcp:type_of% @Int.natAbs_natCast:=Int.natAbs_natCast
theorem qcq:type_of% @Int.emod_lt_of_pos:=Int.emod_lt_of_pos
theorem qcr:type_of% @List.pairwise_iff_getElem:=List.pairwise_iff_getElem
theorem qcs:type_of% @List.getElem?_take_of_lt:=List.getElem?_take_of_lt
theorem qct:type_of% @Option.getD_some:=Option.getD_some
theorem qcu:type_of% @List.drop_append:=List.drop_append
theorem qcv:type_of% @Int.eq_ofNat_of_zero_le:=Int.eq_ofNat_of_zero_le
theorem qcw:type_of% @UInt8.toNat_inj:=UInt8.toNat_inj
theorem qcx:type_of% @List.all_append:=List.all_append
theorem qcy:type_of% @Int.natCast_add:=Int.natCast_add
theorem qcz:type_of% @Int.emod_nonneg:=Int.emod_nonneg
def val:List Nat->Nat
 |[]=>0
 |x::xs=>x+4294967296*val xs
def Ok(xs:List Nat):Prop:=∀x∈xs,x<4294967296
def FS:Nat->Nat->List Nat
 |0,_=>[]
 |f+1,n=>if n=0 then [] else n % 4294967296::FS f (n / 4294967296)
def Af(n:Nat):List Nat:=FS n n
theorem QJ(f:Nat):∀(g n:Nat),n<=f->n<=g->FS f n=FS g n:=by
 induction f with
 |zero=>intro g n h _;have:n=0:=by omega
        subst this;cases g<;>simp[FS]
 |succ f ih=>
  intro g n hf hg;cases g with
  |zero=>have:n=0:=by omega
         subst this;simp[FS]
  |succ g=>
   simp only[FS];split
   ·rfl
   ·rw[ih g (n / 4294967296) (by omega) (by omega)]
theorem Cs:Af 0=[]:=rfl
theorem Co(n:Nat)(h:n≠0):Af n=n % 4294967296::Af (n / 4294967296):=by
 obtain⟨m,rfl⟩:∃m,n=m+1:=⟨n-1,by omega⟩;unfold Af;rw[FS,if_neg h,QJ m ((m+1) / 4294967296) _ (by omega) (qad _)]
theorem JA(x n:Nat)(hx:x<4294967296)(h:x+4294967296*n≠0):Af (x+4294967296*n)=x::Af n:=by
 rw[Co _ h];have h1:(x+4294967296*n) % 4294967296=x:=by omega
 have h2:(x+4294967296*n) / 4294967296=n:=by omega
 rw[h1,h2]
theorem CT:Ok []:=fun _ h=>by cases h
theorem DE{x:Nat}{xs:List Nat}(hx:x<4294967296)(h:Ok xs):Ok (x::xs):=fun y hy=>by
 cases hy with
 |head=>exact hx
 |tail _ h'=>exact h y h'
theorem Ok.head{x:Nat}{xs:List Nat}(h:Ok (x::xs)):x<4294967296:=h x (by simp)
theorem Ok.tail{x:Nat}{xs:List Nat}(h:Ok (x::xs)):Ok xs:=fun y hy=>h y (by simp[hy])
theorem Ok.append{xs ys:List Nat}(h:Ok xs)(k:Ok ys):Ok (xs++ys):=fun y hy=>by
 rcases qax.1 hy with h1|h1
 ·exact h y h1
 ·exact k y h1
theorem Ok.take{xs:List Nat}(h:Ok xs)(n:Nat):Ok (xs.take n):=fun y hy=>h y (List.mem_of_mem_take hy)
theorem Ok.drop{xs:List Nat}(h:Ok xs)(n:Nat):Ok (xs.drop n):=fun y hy=>h y (List.mem_of_mem_drop hy)
theorem Ok.get{xs:List Nat}(h:Ok xs)(i:Nat):xs.getD i 0<4294967296:=by
 rw[qac];cases hx:xs[i]? with
 |none=>simp
 |some x=>exact h x (List.mem_of_getElem? hx)
theorem C1(n:Nat):Ok (Af n):=by
 induction n using Nat.strongRecOn with
 |_ n ih=>
  by_cases h:n=0
  ·subst h;exact CT
  ·rw[Co n h];exact DE (by omega) (ih _ (by omega))
theorem Ah(n:Nat):val (Af n)=n:=by
 induction n using Nat.strongRecOn with
 |_ n ih=>
  by_cases h:n=0
  ·subst h;rfl
  ·rw[Co n h,val,ih _ (by omega)];omega
theorem D9(xs ys:List Nat):val (xs++ys)=val xs+4294967296 ^ xs.length*val ys:=by
 induction xs with
 |nil=>simp[val]
 |cons x xs ih=>
  rw[qbt,val,val,ih,qat,qaZ,qaI,<-qaY,qbb 4294967296 (4294967296 ^ xs.length)];omega
theorem PH(k:Nat):val (List.replicate k 0)=0:=by
 induction k with
 |zero=>rfl
 |succ k ih=>rw[qbS,val,ih]
theorem Dj{xs:List Nat}(h:Ok xs):val xs<4294967296 ^ xs.length:=by
 induction xs with
 |nil=>simp[val]
 |cons x xs ih=>
  have h1:=ih h.tail;have h2:=h.head;rw[val,qat,qaZ];have h3:val xs+1<=4294967296 ^ xs.length:=h1;have h4:=qaN 4294967296 h3;rw[qbb (4294967296 ^ xs.length)];omega
def size:List Nat->Nat
 |[]=>0
 |x::xs=>if size xs=0 then (if x=0 then 0 else 1) else size xs+1
theorem size_le(xs:List Nat):size xs<=xs.length:=by
 induction xs with
 |nil=>simp[size]
 |cons x xs ih=>rw[size,qat];split<;>(try split)<;>omega
theorem Hq{xs:List Nat}(h:size xs=0):val xs=0:=by
 induction xs with
 |nil=>rfl
 |cons x xs ih=>
  rw[size]at h;split at h
  ·rename_i h0;split at h
   ·rename_i hx;rw[val,ih h0,hx]
   ·omega
  ·omega
theorem Mg{xs:List Nat}(h:val xs=0):size xs=0:=by
 induction xs with
 |nil=>rfl
 |cons x xs ih=>
  rw[val]at h;rw[size,ih (by omega),if_pos rfl,if_pos (by omega)]
theorem Dt{xs:List Nat}(h:Ok xs):xs.take (size xs)=Af (val xs):=by
 induction xs with
 |nil=>rfl
 |cons x xs ih=>
  have h1:=ih h.tail;by_cases h0:size xs=0
  ·have hv:=Hq h0;rw[size,if_pos h0,val,hv];split
   ·rename_i hx;subst hx;rfl
   ·rename_i hx;rw[JA _ _ h.head (by omega)];rfl
  ·have hv:val xs≠0:=fun e=>h0 (Mg e)
   rw[size,if_neg h0,val,JA _ _ h.head (by omega),<-h1];rfl
theorem Lj{xs:List Nat}(h:Ok xs):size xs=(Af (val xs)).length:=by
 rw[<-Dt h,qas,qaV (size_le xs)]
theorem I4(xs:List Nat)(n:Nat)(hn:n<=xs.length)(hz:∀i,n<=i->xs.getD i 0=0)(ht:0<n->xs.getD (n-1) 0≠0):size xs=n:=by
 induction xs generalizing n with
 |nil=>simp at hn;subst hn;rfl
 |cons x xs ih=>
  cases n with
  |zero=>
   have h0:=ih 0 (qal _) (fun i _=>by have:=hz (i+1) (qal _);simpa using this) (by omega);have hx:x=0:=by have:=hz 0 (qad _);simpa using this
   rw[size,if_pos h0,if_pos hx]
  |succ n=>
   have h0:=ih n (by simpa using hn) (fun i hi=>by have:=hz (i+1) (by omega);simpa using this) (fun hp=>by
    have:=ht (by omega);obtain⟨m,rfl⟩:∃m,n=m+1:=⟨n-1,by omega⟩
    simpa using this)
   rw[size];split
   ·rename_i h1;have hn0:n=0:=by omega
    subst hn0;have:=ht (by omega);rw[if_neg (by simpa using this)]
   ·omega
theorem Bg{n k:Nat}(h:n<4294967296 ^ k):(Af n).length<=k:=by
 induction k generalizing n with
 |zero=>have:n=0:=by omega
        subst this;simp[Cs]
 |succ k ih=>
  by_cases h0:n=0
  ·subst h0;simp[Cs]
  ·rw[Co n h0,qat];have h1:n / 4294967296<4294967296 ^ k:=by
    rw[qaZ,qbb]at h;exact qbx h
   have:=ih h1;omega
theorem AG{xs:List Nat}(h:Ok xs):(Af (val xs)).length<=xs.length:=Bg (Dj h)
theorem DX{n:Nat}:Af n=[]↔n=0:=by
 constructor
 ·intro h;by_cases h0:n=0
  ·exact h0
  ·rw[Co n h0]at h;cases h
 ·rintro rfl;rfl
theorem Gm(xs:List Nat)(i:Nat)(h:i<xs.length):val (xs.take (i+1))=val (xs.take i)+4294967296 ^ i*xs.getD i 0:=by
 rw[qah h,D9,qas,qaV (by omega),qac,qaa h];simp[val]
theorem L4(xs:List Nat)(i:Nat)(h:i<xs.length):val (xs.drop i)=xs.getD i 0+4294967296*val (xs.drop (i+1)):=by
 rw[qbQ h,val,qac,qaa h];rfl
theorem Kt(xs:List Nat)(i:Nat)(h:i<=xs.length):val xs=val (xs.take i)+4294967296 ^ i*val (xs.drop i):=by
 have:=D9 (xs.take i) (xs.drop i);rw[qbo,qas,qaV h]at this;exact this
theorem Cu(ys:List Nat)(y:Nat):val (ys++[y])=val ys+4294967296 ^ ys.length*y:=by
 rw[D9];simp[val]
theorem I1(xs ys:List Nat)(k m c cy:Nat)(hk:k<xs.length)(hl:ys.length=k)(h:val ys+4294967296 ^ k*cy=val (xs.take k)*m+c):
  val (ys++[(cy+xs.getD k 0*m) % 4294967296])+4294967296 ^ (k+1)*((cy+xs.getD k 0*m) / 4294967296)=val (xs.take (k+1))*m+c:=by
 rw[Cu,Gm xs k hk,hl,qaZ,qbm,qaY (4294967296 ^ k) 4294967296,qbT,<-qaI,Nat.mod_add_div,qaI,qaY];omega
theorem IP{x m:Nat}(hx:x<4294967296)(hm:m<4294967296):x*m<=18446744065119617025:=
 qaf (Nat.mul_le_mul (Nat.le_sub_one_of_lt hx) (Nat.le_sub_one_of_lt hm)) (by decide)
theorem RZ(xs qs:List Nat)(k d r:Nat)(hk:k<xs.length)(h:val qs*d+r=val (xs.drop (k+1))):
  val ((r*4294967296+xs.getD k 0) / d::qs)*d+(r*4294967296+xs.getD k 0) % d=val (xs.drop k):=by
 rw[L4 xs k hk,<-h,val,qbm,qaI,qaY];have:=qce (r*4294967296+xs.getD k 0) d;omega
theorem TV{r d x:Nat}(hr:r<d)(hx:x<4294967296):(r*4294967296+x) / d<4294967296:=by
 have h1:r*4294967296+x<d*4294967296:=by omega
 exact qbx h1
theorem Lt{q d r n:Nat}(hd:r<d)(h:q*d+r=n):q=n / d/\r=n % d:=by
 have h0:0<d:=by omega
 subst h;refine⟨?_,?_⟩
 ·rw[qck,Nat.add_mul_div_right _ _ h0,qbH hd,qaF]
 ·rw[qck,Nat.add_mul_mod_self_right,qbp hd]
theorem LL(xs:List Nat)(i:Nat)(h:xs.length<=i):xs.getD i 0=0:=by
 rw[qac,qaz h];rfl
theorem Br(xs:List Nat)(i:Nat):val (xs.drop i)=xs.getD i 0+4294967296*val (xs.drop (i+1)):=by
 rcases qam i xs.length with h|h
 ·exact L4 xs i h
 ·rw[qaS h,qaS (by omega),LL xs i h];rfl
theorem BK(xs:List Nat)(i:Nat):val xs=val (xs.take i)+4294967296 ^ i*val (xs.drop i):=by
 rcases qam i xs.length with h|h
 ·exact Kt xs i (by omega)
 ·rw[qaS h,qak h];simp[val]
theorem Cj(xs:List Nat)(i:Nat):val (xs.take (i+1))=val (xs.take i)+4294967296 ^ i*xs.getD i 0:=by
 rcases qam i xs.length with h|h
 ·exact Gm xs i h
 ·rw[qak (by omega),qak h,LL xs i h];simp
theorem Mv{i j:Nat}(h:i<=j):4294967296 ^ i<=4294967296 ^ j:=qbw (by omega) h
theorem Ji(i:Nat):0<4294967296 ^ i:=qbB (by omega)
theorem B3{xs:List Nat}(h:Ok xs)(i:Nat):val (xs.take i)<4294967296 ^ i:=
 qaj (Dj (h.take i)) (Mv (List.length_take_le _ _))
theorem TD{xs ys:List Nat}(hx:Ok xs)(i:Nat)(h:val (xs.drop i)<val (ys.drop i)):val xs<val ys:=by
 rw[BK xs i,BK ys i];have h1:=B3 hx i;have h2:=qaN (4294967296 ^ i) (show val (xs.drop i)+1<=val (ys.drop i) from h);rw[qaI,qbj]at h2;omega
theorem G9{xs ys:List Nat}(hx:Ok xs)(i:Nat)(h:val (xs.drop (i+1))=val (ys.drop (i+1)))(hlt:xs.getD i 0<ys.getD i 0):val xs<val ys:=
 TD hx i (by rw[Br xs,Br ys,h];omega)
theorem Ng{xs ys:List Nat}(i:Nat)(h:val (xs.drop (i+1))=val (ys.drop (i+1)))(he:xs.getD i 0=ys.getD i 0):val (xs.drop i)=val (ys.drop i):=by
 rw[Br xs,Br ys,h,he]
def DN(a b:Nat):Int:=if a<b then-1 else if b<a then 1 else 0
theorem Ge{a b:Nat}(h:a<b):DN a b= -1:=if_pos h
theorem LP{a b:Nat}(h:b<a):DN a b=1:=by unfold DN;rw[if_neg (by omega),if_pos h]
theorem Py{a b:Nat}(h:a=b):DN a b=0:=by unfold DN;rw[if_neg (by omega),if_neg (by omega)]
theorem JS{a b:Nat}:DN a b<0↔a<b:=by unfold DN;split<;>(try split)<;>omega
theorem RE {as bs zs:List Nat} {k c z c':Nat} (hl:zs.length=k) (h:val (as.take k)+4294967296 ^ k*c=val zs+val (bs.take k))
  (hz:as.getD k 0+4294967296*c'=z+bs.getD k 0+c):val (as.take (k+1))+4294967296 ^ (k+1)*c'=val (zs++[z])+val (bs.take (k+1)):=by
 rw[Cj,Cj,Cu,hl,qaZ,qaY];have h1:=congrArg (4294967296 ^ k*·) hz;simp only[qaI]at h1;omega
theorem Tf {as bs zs:List Nat} {n c:Nat} (ha:Ok as) (hz:Ok zs) (hn:as.drop n=[]\/val (as.drop n)=0) (hl:zs.length=n) (hle:val bs<=val as)
  (h:val (as.take n)+4294967296 ^ n*c=val zs+val (bs.take n)):val zs=val as-val bs:=by
 have h0:val (as.drop n)=0:=by rcases hn with h1|h1<;>simp[h1,val]
 have h1:=BK as n;have h2:=BK bs n;have h3:=B3 ha n;have h4:=Dj hz;rw[hl]at h4;rw[h0,qbz]at h1;rcases qar (val (bs.drop n)) with h5|h5
 ·rw[h5,qbz]at h2;rcases qar c with h6|h6
  ·subst h6;omega
  ·have:=qaN (4294967296 ^ n) h6;omega
 ·have:=qaN (4294967296 ^ n) h5;omega
theorem DB{xs:List Nat}(h:Ok xs){m c:Nat}(hm:m<4294967296)(hc:c<4294967296):(Af (val xs*m+c)).length<=xs.length+1:=by
 refine Bg ?_
 have h1:=Dj h;rw[qaZ];have h6:(val xs+1)*4294967296<=4294967296 ^ xs.length*4294967296:=qbf _ (Nat.succ_le_of_lt h1);have h7:val xs*m<=val xs*4294967295:=qaN _ (by omega);omega
theorem Fs{n:Nat}{ys:List Nat}(h:Ok ys)(hn:n<=val ys):(Af n).length<=ys.length:=Bg (qbD hn (Dj h))
theorem O0{b r l:Nat}(h1:b*l<=r)(h2:r<b*(l+1)):l=r / b:=by
 have hb:0<b:=by
  rcases qar b with h|h
  ·subst h;simp at h2
  ·exact h
 refine(Nat.div_eq_of_lt_le ?_ ?_).symm
 ·rw[qbb];exact h1
 ·rw[qbb];exact h2
theorem SH{xs qs:List Nat}{k b r:Nat}(h:val qs*b+r=val (xs.drop (k+1))):
  val ((xs.getD k 0+4294967296*r) / b::qs)*b+(xs.getD k 0+4294967296*r) % b=val (xs.drop k):=by
 rw[Br xs k,<-h,val,qbm,qaI,qaY];have:=qce (xs.getD k 0+4294967296*r) b;omega
theorem T2{r b x:Nat}(hr:r<b)(hx:x<4294967296):(x+4294967296*r) / b<4294967296:=by
 refine qbx ?_
 have:4294967296*(r+1)<=4294967296*b:=qaN _ hr;rw[qbb b];omega
theorem JB{ys:List Nat}{n:Nat}(h:Ok ys)(hn:n<val ys*4294967296):(Af n).length<=ys.length+1:=by
 refine Bg ?_
 rw[qaZ];exact qaj hn (qbf _ (qaR (Dj h)))
theorem Q6{x r b:Nat}(hr:r<b)(hx:x<4294967296):x+4294967296*r<b*4294967296:=by
 have:4294967296*(r+1)<=4294967296*b:=qaN _ hr;omega
def MU:Nat->Nat->List UInt8
 |0,_=>[]
 |f+1,n=>if n=0 then [] else UInt8.ofNat (48+n % 10)::MU f (n / 10)
def low(n:Nat):List UInt8:=MU n n
def dec(n:Nat):List UInt8:=if n=0 then [48] else (low n).reverse
theorem Tv(f:Nat):∀(g n:Nat),n<=f->n<=g->MU f n=MU g n:=by
 induction f with
 |zero=>intro g n h _;have:n=0:=by omega
        subst this;cases g<;>simp[MU]
 |succ f ih=>
  intro g n hf hg;cases g with
  |zero=>have:n=0:=by omega
         subst this;simp[MU]
  |succ g=>
   simp only[MU];split
   ·rfl
   ·rw[ih g (n / 10) (by omega) (by omega)]
theorem G0:low 0=[]:=rfl
theorem LH(n:Nat)(h:n≠0):low n=UInt8.ofNat (48+n % 10)::low (n / 10):=by
 obtain⟨m,rfl⟩:∃m,n=m+1:=⟨n-1,by omega⟩;unfold low;rw[MU,if_neg h,Tv m ((m+1) / 10) _ (by omega) (qad _)]
theorem Tu{n:Nat}(h:low n=[]):n=0:=by
 by_cases h0:n=0
 ·exact h0
 ·rw[LH n h0]at h;cases h
theorem TF(n:Nat)(h:n≠0):dec n=(low n).reverse:=if_neg h
theorem Kn{n k:Nat}(h:n<10 ^ k):(low n).length<=k:=by
 induction k generalizing n with
 |zero=>have:n=0:=by omega
        subst this;simp[G0]
 |succ k ih=>
  by_cases h0:n=0
  ·subst h0;simp[G0]
  ·rw[LH n h0,qat];have h1:n / 10<10 ^ k:=by
    rw[qaZ,qbb]at h;exact qbx h
   have:=ih h1;omega
theorem Lx(k:Nat):4294967296 ^ k<=10 ^ (10*k):=by
 rw[Nat.pow_mul];exact Nat.pow_le_pow_left (by decide) k
theorem FT{xs:List Nat}(h:Ok xs):(low (val xs)).length<=10*xs.length:=
 Kn (qaj (Dj h) (Lx _))
theorem QG(n:Nat)(h:n≠0)(s:List UInt8):(low n).reverse++s=(low (n / 10)).reverse++(UInt8.ofNat (48+n % 10)::s):=by
 rw[LH n h,List.reverse_cons,qan];rfl
def Bx(c:UInt8):Bool:=decide (48<=c.toNat) && decide (c.toNat<=57)
def Bk(l:List UInt8):Nat:=l.foldl (fun n c=>10*n+(c.toNat-48)) 0
theorem Oh(l:List UInt8)(c:UInt8):Bk (l++[c])=10*Bk l+(c.toNat-48):=by
 unfold Bk;rw[qaO];rfl
theorem Jr(l:List UInt8)(k:Nat)(h:k<l.length):Bk (l.take (k+1))=10*Bk (l.take k)+(l[k].toNat-48):=by
 rw[qah h,Oh]
theorem Js(l:List UInt8)(h:l.all Bx=true):Bk l<10 ^ l.length:=by
 have key:∀(l:List UInt8) (n k:Nat),l.all Bx=true->n<10 ^ k->l.foldl (fun n c=>10*n+(c.toNat-48)) n<10 ^ (k+l.length):=by
  intro l
  induction l with
  |nil=>intro n k _ hn;simpa using hn
  |cons c l ih=>
   intro n k ha hn;rw[qbV,qaM]at ha;have hc:=ha.1;unfold Bx at hc;simp at hc;rw[qbd,qat];have:=ih (10*n+(c.toNat-48)) (k+1) ha.2 (by rw[qaZ];omega);rw[show k+1+l.length=k+(l.length+1) by omega]at this;exact this
 have:=key l 0 0 h (by simp)
 simpa [Bk] using this
def IQ(l:List UInt8):Nat × Nat:=
 if 20001<l.length then (0,7)
 else if l=[] then (0,6)
 else if l[0]? =some 48/\1<l.length then (0,6)
 else if l.all Bx then (Bk l,0) else (0,6)
theorem Rw(l:List UInt8)(k:Nat)(h:k<l.length):(l.take (k+1)).all Bx=((l.take k).all Bx && Bx l[k]):=by
 rw[qah h,qcx];simp
theorem LU{l:List UInt8}{k:Nat}(h:k<l.length)(hf:Bx l[k]=false):l.all Bx=false:=by
 rw[List.all_eq_false];exact⟨l[k],qap h,by simp[hf]⟩
theorem M5{a s c n d:Nat}(h:n=a*s+c):10*n+d=a*(10*s)+(10*c+d):=by
 rw[h,qaI,Nat.mul_left_comm];omega
theorem Kd{j:Nat}(h:j<=8):10 ^ j<=100000000:=by
 have:=qbw (show 0<10 by omega) h;exact this
theorem PO{j:Nat}(h:j<=8):(10*10 ^ j=1000000000)↔j=8:=by
 have:j=0\/j=1\/j=2\/j=3\/j=4\/j=5\/j=6\/j=7\/j=8:=by omega
 rcases this with rfl|rfl|rfl|rfl|rfl|rfl|rfl|rfl|rfl<;>simp
theorem Km{a k:Nat}(h:a<10 ^ k):(Af a).length<=k:=
 Bg (qaj h (Nat.pow_le_pow_left (by omega) k))
theorem Ih{l:List UInt8}{k:Nat}(h:(l.take k).all Bx=true)(hk:k<=l.length):Bk (l.take k)<10 ^ k:=by
 have:=Js _ h
 rwa [qas,qaV hk]at this
theorem QL(b:UInt8):Bx b=true↔48<=b.toNat/\b.toNat<=57:=by unfold Bx;simp
theorem Hu(s:Nat)(h:s<=32):4294967296=2 ^ s*2 ^ (32-s):=by
 rw[<-Nat.pow_add,show s+(32-s)=32 by omega]
theorem Jj(s:Nat)(h:s<=31):2 ^ s<=2147483648:=qaf (qbw (by omega) h) (by decide)
theorem Kv{x s:Nat}(hx:x<4294967296)(hs:s<=31):x*2 ^ s / 4294967296<2 ^ s/\x*2 ^ s<18446744073709551616/\2 ^ s ∣ (x*2 ^ s % 4294967296):=by
 have hp:0<2 ^ s:=qbB (by omega);refine⟨?_,?_,?_⟩
 ·refine qbx ?_
  exact Nat.mul_lt_mul_of_pos_right hx hp
 ·have:=Jj s hs;have h2:x*2 ^ s<=4294967295*2147483648:=Nat.mul_le_mul (by omega) this;omega
 ·have h1:2 ^ s ∣ 4294967296:=⟨2 ^ (32-s),Hu s (by omega)⟩;exact(Nat.dvd_mod_iff h1).2 ⟨x,qbb _ _⟩
theorem TT{c y s:Nat}(hc:c<2 ^ s)(hy:2 ^ s ∣ y):c ||| y=c+y:=by
 obtain⟨z,rfl⟩:=hy;rw[qbb,<-Nat.shiftLeft_eq,Nat.or_comm,<-Nat.shiftLeft_add_eq_or_of_lt hc,qck]
theorem Mi{c y s:Nat}(hs:s<=31)(hc:c<2 ^ s)(hy:2 ^ s ∣ y)(hlt:y<4294967296):c+y<4294967296:=by
 obtain⟨z,rfl⟩:=hy;have h0:=Hu s (by omega);have h1:z<2 ^ (32-s):=by
  rw[h0]at hlt;exact Nat.lt_of_mul_lt_mul_left hlt
 have h2:2 ^ s*(z+1)<=2 ^ s*2 ^ (32-s):=qaN _ h1;rw[<-h0,qaI,qbj]at h2;omega
theorem RI{xs zs:List Nat}{i c s y:Nat}(hl:zs.length=i)(h:val zs+4294967296 ^ i*c=val (xs.take i)*2 ^ s)(hy:y=xs.getD i 0*2 ^ s):
  val (zs++[c+y % 4294967296])+4294967296 ^ (i+1)*(y / 4294967296)=val (xs.take (i+1))*2 ^ s:=by
 rw[Cj,Cu,hl,qbm,<-h,qaY,<-hy,qaZ,qaY,qaI,qbT,qbT,<-qaI,Nat.mod_add_div,qbT]
theorem Ti(d s:Nat)(zs:List Nat)(x:Nat)(h:val zs=x*2 ^ s):val (List.replicate d 0++zs)=x*2 ^ (32*d+s):=by
 rw[D9,PH,qaL,qaF,h,Nat.pow_add,Nat.pow_mul,show (2:Nat) ^ 32=4294967296 from rfl,Nat.mul_left_comm]
theorem PU{x y r s:Nat}(hs:s<=31):(x+4294967296*(y+4294967296*r)) / 2 ^ s % 4294967296=(x+4294967296*y) / 2 ^ s % 4294967296:=by
 have h0:=Hu s (by omega);have hp:0<2 ^ s:=qbB (by omega);have e:x+4294967296*(y+4294967296*r)=x+4294967296*y+2 ^ s*(4294967296*(2 ^ (32-s)*r)):=by
  have h1:2 ^ s*(4294967296*(2 ^ (32-s)*r))=4294967296*(4294967296*r):=by
   rw[Nat.mul_left_comm,<-qaY (2 ^ s),<-h0]
  rw[h1];omega
 rw[e,Nat.add_mul_div_left _ _ hp,Nat.add_mul_mod_self_left]
theorem FW{xs:List Nat}(h:Ok xs)(i:Nat):val xs / 4294967296 ^ i=val (xs.drop i):=by
 rw[BK xs i,Nat.add_mul_div_left _ _ (Ji i),qbH (B3 h i),qaF]
theorem RG{xs zs:List Nat}{i s N:Nat}(an:Ok xs)(hN:N=val xs / 2 ^ s)(hs:s<=31)(hl:zs.length=i)(h:val zs=N % 4294967296 ^ i):
  val (zs++[(xs.getD i 0+4294967296*xs.getD (i+1) 0) / 2 ^ s % 4294967296])=N % 4294967296 ^ (i+1):=by
 rw[Cu,hl,h,qaZ,Nat.mod_mul];have h2:N / 4294967296 ^ i=val (xs.drop i) / 2 ^ s:=by
  rw[hN,Nat.div_div_eq_div_mul,qbb,<-Nat.div_div_eq_div_mul,FW an]
 rw[h2,Br xs i,Br xs (i+1),PU hs]
theorem Tg{xs zs:List Nat}{s N:Nat}(an:Ok xs)(hN:N=val xs / 2 ^ s)(h:val zs=N % 4294967296 ^ xs.length):val zs=N:=by
 rw[h];exact qbp (qbD (by rw[hN];exact Nat.div_le_self _ _) (Dj an))
theorem Mh{xs:List Nat}(an:Ok xs)(d s:Nat):val (xs.drop d) / 2 ^ s=val xs / 2 ^ (32*d+s):=by
 rw[<-FW an d,Nat.div_div_eq_div_mul,Nat.pow_add,Nat.pow_mul]
theorem RH{xs:List Nat}(an:Ok xs){d s:Nat}(h:xs.length<=d):val xs / 2 ^ (32*d+s)=0:=by
 rw[<-Mh an,qaS h,val,Nat.zero_div]
theorem QB {us vs zs:List Nat} {i g c b d b' t:Nat} (hl:zs.length=i) (h:val zs+g*val (vs.take i)=val (us.take i)+4294967296 ^ i*(c+b))
  (ht:t=c+g*vs.getD i 0) (hd:us.getD i 0+4294967296*b'=d+t % 4294967296+b):
  val (zs++[d])+g*val (vs.take (i+1))=val (us.take (i+1))+4294967296 ^ (i+1)*(t / 4294967296+b'):=by
 rw[Cj,Cj,Cu,hl,qaI,qaZ,qaY (4294967296 ^ i)];have h1:g*(4294967296 ^ i*vs.getD i 0)=4294967296 ^ i*(g*vs.getD i 0):=Nat.mul_left_comm _ _ _;rw[h1];have hm:=Nat.mod_add_div t 4294967296;have h2:4294967296 ^ i*(d+g*vs.getD i 0+(c+b))=4294967296 ^ i*(us.getD i 0+4294967296*(t / 4294967296+b')):=by
  congr 1
  omega
 simp only[qaI]at h2 h ⊢;omega
theorem Sp {us vs zs:List Nat} {n g c b d b':Nat} (hl:zs.length=n) (hv:vs.length=n) (hu:us.length=n+1) (h:val zs+g*val (vs.take n)=val (us.take n)+4294967296 ^ n*(c+b))
  (hd:us.getD n 0+4294967296*b'=d+c+b):
  val (zs++[d])+g*val vs=val us+4294967296 ^ (n+1)*b':=by
 rw[BK us n,Br us n,qaS (by omega),val,qbz,qbc,Cu,hl];rw[qak (by omega)]at h;have h2:4294967296 ^ n*(d+(c+b))=4294967296 ^ n*(us.getD n 0+4294967296*b'):=by
  congr 1
  omega
 rw[qaZ,qaY];simp only[qaI]at h2 h ⊢;omega
theorem Ol{zs:List Nat}{n U V g b:Nat}(hz:Ok zs)(hl:zs.length=n)(h:val zs+g*V=U+4294967296 ^ n*b)(hq:g=U / V)(hb:b<=1):b=0/\val zs=U % V:=by
 have h1:=Dj hz;rw[hl]at h1;have h2:g*V<=U:=by rw[hq];exact Nat.div_mul_le_self U V
 have hb0:b=0:=by
  rcases qar b with h3|h3
  ·exact h3
  ·obtain rfl:b=1:=by omega
   omega
 subst hb0;refine⟨rfl,?_⟩;have:=qce U V;rw[<-hq]at this;omega
theorem So{zs:List Nat}{n U V g b:Nat}(_hz:Ok zs)(hV:0<V)(_hl:zs.length=n)(h:val zs+g*V=U+4294967296 ^ n*b)(hq:g=U / V+1)(hb:b<=1):b=1/\val zs+V=U % V+4294967296 ^ n:=by
 have h3:(U / V+1)*V=U / V*V+V:=by rw[qbm,qbC]
 have h4:=qce U V;have h5:=qbl U hV;rw[hq,h3]at h;have av:b=1:=by
  rcases qar b with h6|h6
  ·subst h6;omega
  ·omega
 subst av;exact⟨rfl,by omega⟩
theorem Rk{us vs zs:List Nat}{i c z c':Nat}(hl:zs.length=i)(h:val zs+4294967296 ^ i*c=val (us.take i)+val (vs.take i))(hz:z+4294967296*c'=us.getD i 0+vs.getD i 0+c):
  val (zs++[z])+4294967296 ^ (i+1)*c'=val (us.take (i+1))+val (vs.take (i+1)):=by
 rw[Cj,Cj,Cu,hl,qaZ,qaY];have h2:4294967296 ^ i*(z+4294967296*c')=4294967296 ^ i*(us.getD i 0+vs.getD i 0+c):=by rw[hz]
 simp only[qaI]at h2 h ⊢;omega
theorem SX {us vs zs:List Nat} {n c R V:Nat} (y7:Ok zs) (zc:Ok vs) (hl:zs.length=n) (hv:vs.length=n) (hu:us.length=n+1) (hV:val vs=V)
  (h:val zs+4294967296 ^ n*c=val (us.take n)+val (vs.take n)) (hR:val us+V=R+4294967296 ^ (n+1)) (hlt:R<V):
  val (zs++[(us.getD n 0+c) % 4294967296])=R:=by
 rw[Cu,hl];rw[qak (by omega:vs.length<=n),hV]at h;have h1:val us=val (us.take n)+4294967296 ^ n*us.getD n 0:=by
  have:=Cj us n;rw[qak (by omega)]at this;exact this
 have h3:val zs+4294967296 ^ n*(us.getD n 0+c)=R+4294967296 ^ n*4294967296:=by
  rw[qaZ]at hR;simp only[qaI];omega
 have h4:=Dj y7;have h5:=Dj zc;rw[hl]at h4;rw[hv,hV]at h5;have h6:us.getD n 0+c=4294967296:=by
  rcases qca (us.getD n 0+c) 4294967296 with h7|h7|h7
  ·have:=qaN (4294967296 ^ n) (show us.getD n 0+c+1<=4294967296 from h7);rw[qaI,qbj]at this;omega
  ·exact h7
  ·have:=qaN (4294967296 ^ n) (show 4294967296+1<=us.getD n 0+c from h7);rw[qaI,qbj]at this;omega
 rw[h6]at h3 ⊢;rw[Nat.mod_self,qbz];omega
theorem Gb(us:List Nat)(k i:Nat):(us.drop k).getD i 0=us.getD (k+i) 0:=by
 rw[qac,qac,List.getElem?_drop]
theorem HJ(us:List Nat){n i:Nat}(h:i<n):(us.take n).getD i 0=us.getD i 0:=by
 rw[qac,qac,qcs h]
def seg(us:List Nat)(k n:Nat):List Nat:=(us.drop k).take (n+1)
theorem I7{us:List Nat}{k n:Nat}(h:k+n+1<=us.length):(seg us k n).length=n+1:=by
 unfold seg;rw[qas,qaU];omega
theorem GR{us:List Nat}{k n i:Nat}(h:i<=n):(seg us k n).getD i 0=us.getD (k+i) 0:=by
 unfold seg;rw[HJ _ (by omega),Gb]
theorem Ok.seg{us:List Nat}(h:Ok us)(k n:Nat):Ok (seg us k n):=(h.drop k).take (n+1)
def over(us:List Nat)(k:Nat)(zs:List Nat):List Nat:=us.take k++zs++us.drop (k+zs.length)
theorem MF(us:List Nat)(k:Nat):over us k []=us:=by simp[over]
theorem AJ{us zs:List Nat}{k:Nat}(h:k+zs.length<=us.length):(over us k zs).length=us.length:=by
 simp[over];omega
theorem GW{us zs:List Nat}{k d:Nat}(h:k+zs.length<us.length):(over us k zs).set (k+zs.length) d=over us k (zs++[d]):=by
 unfold over;have hl:(us.take k++zs).length=k+zs.length:=by simp;omega
 rw[qbk _ _ (by omega),hl,qaX,qbQ h,qbF,qab,qae,<-qbT];simp[qan]
theorem GX{us zs:List Nat}{k i:Nat}(h:k<=us.length)(hi:zs.length<=i):(over us k zs).getD (k+i) 0=us.getD (k+i) 0:=by
 unfold over;have hl:(us.take k++zs).length=k+zs.length:=by simp;omega
 rw[qac,qac,qao (by omega),hl,List.getElem?_drop]
 congr 2
 omega
theorem Pf{us zs:List Nat}{k i:Nat}(h:k<=us.length)(hi:i<zs.length):(over us k zs).getD (k+i) 0=zs.getD i 0:=by
 unfold over;have hl:(us.take k).length=k:=by simp;omega
 rw[qan,qac,qac,qao (by omega),hl,qbq,qaC hi]
theorem Qm{us zs ys:List Nat}{k:Nat}(h:k<=us.length)(hl:ys.length=zs.length):over (over us k zs) k ys=over us k ys:=by
 unfold over;have h1:(us.take k).length=k:=by simp;omega
 rw[hl,qan (us.take k) zs,List.take_append_of_le_length (by omega),qak (by omega)]
 congr 1
 rw[qcu,List.drop_of_length_le (by omega),h1,qaG,qbq,qcu,List.drop_of_length_le (qad _),qaX,qaG,qco]
theorem Ok.over{us zs:List Nat}(h:Ok us)(h':Ok zs)(k:Nat):Ok (over us k zs):=((h.take k).append h').append (h.drop _)
def DQ(u0 us qs:List Nat)(V K:Nat):Prop:=
 us.length=u0.length/\Ok us/\us.take K=u0.take K/\val (us.drop K)<V/\val (us.drop K)+val qs*V=val (u0.drop K)
theorem DQ.seg_lt{u0 us qs:List Nat}{V k n:Nat}(h:DQ u0 us qs V (k+1))(_hn:us.length<=4294967296)(hV:V<4294967296 ^ n):
  val (seg us k n)=us.getD k 0+4294967296*val (us.drop (k+1))/\val (seg us k n)<V*4294967296:=by
 obtain⟨hl,an,ht,hlt,hv⟩:=h;have h1:val (seg us k n)=val (us.drop k):=by
  unfold seg;have h2:=BK (us.drop k) (n+1);have h3:val ((us.drop k).drop (n+1))=0:=by
   rw[List.drop_drop,show k+(n+1)=(k+1)+n by omega,<-List.drop_drop,<-FW (an.drop (k+1)) n];exact qbH (Nat.lt_trans hlt hV)
  rw[h3,qbz]at h2;exact h2.symm
 rw[h1,Br us k];refine⟨rfl,?_⟩;have h4:=an.get k;have h5:=qaN 4294967296 (show val (us.drop (k+1))+1<=V from hlt);rw[qaI,qbj,qbb 4294967296 V]at h5;omega
theorem DQ.step {u0 us qs zs:List Nat} {V k n:Nat} (h:DQ u0 us qs V (k+1)) (hn:us.length<=4294967296) (hV:V<4294967296 ^ n) (zx:0<V) (hk:k+n+1<=us.length)
  (hz:Ok zs) (hl:zs.length=n+1) (hm:val zs=val (seg us k n) % V):DQ u0 (over us k zs) (val (seg us k n) / V::qs) V k:=by
 obtain⟨dU,cn⟩:=h.seg_lt hn hV;obtain⟨h1,an,ht,hlt,hv⟩:=h;have hd:val ((over us k zs).drop k)=val zs:=by
  unfold over;have h2:(us.take k).length=k:=by simp;omega
  rw[qan,qcu,List.drop_of_length_le (by omega),h2,qaX,qco,qaG,D9];have h3:val (us.drop (k+zs.length))=0:=by
   rw[hl,show k+(n+1)=(k+1)+n by omega,<-List.drop_drop,<-FW (an.drop (k+1)) n];exact qbH (Nat.lt_trans hlt hV)
  rw[h3,qbz,qbc]
 refine⟨by rw[AJ (by omega),h1],an.over hz k,?_,?_,?_⟩
 ·unfold over;have h2:(us.take k).length=k:=by simp;omega
  rw[qan,List.take_append_of_le_length (by omega),qak (by omega)];have:=congrArg (List.take k) ht
  rwa [List.take_take,List.take_take,qaV (by omega)]at this
 ·rw[hd,hm];exact qbl _ zx
 ·rw[hd,hm,val];have h2:us.getD k 0=u0.getD k 0:=by
   have:=congrArg (fun l=>l.getD k 0) ht
   rwa [HJ _ (by omega),HJ _ (by omega)]at this
  rw[Br u0 k,<-hv,<-h2,qbm,qaI];have h3:=qce (val (seg us k n)) V;have h4:4294967296*(val qs*V)=4294967296*val qs*V:=(qaY _ _ _).symm;omega
theorem DQ.done{u0 us qs:List Nat}{V n:Nat}(h:DQ u0 us qs V 0)(hV:V<4294967296 ^ n):val qs=val u0 / V/\val (us.take n)=val u0 % V:=by
 obtain⟨h1,an,ht,hlt,hv⟩:=h;rw[qco,qco]at hv;rw[qco]at hlt;have h2:=BK us n;rw[<-FW an n,qbH (Nat.lt_trans hlt hV),qbz,qbc]at h2;rw[h2]at hv hlt;rw[qck]at hv;exact Lt hlt hv
theorem DQ.start{u0:List Nat}{V n:Nat}(an:Ok u0)(hn:1<=n)(hl:n<=u0.length)(h0:u0.getD (u0.length-1) 0=0)(hV:4294967296 ^ (n-1)<=V):DQ u0 u0 [] V (u0.length-n):=by
 refine⟨rfl,an,rfl,?_,by simp[val]⟩;have h1:=Cj (u0.drop (u0.length-n)) (n-1);rw[Nat.sub_add_cancel hn,Gb,show u0.length-n+(n-1)=u0.length-1 by omega,h0,qbz,qbc,qak (by simp;omega)]at h1;rw[h1];exact qaj (B3 (an.drop _) _) hV
theorem M8(a b:Nat):Nat.gcd a b=Nat.gcd b (a % b):=by
 rw[Nat.gcd_comm a b,Nat.gcd_rec b a,Nat.gcd_comm]
theorem Q5(a b s:Nat):(a*2 ^ s) / (b*2 ^ s)=a / b:=Nat.mul_div_mul_right _ _ (qbB (by omega))
theorem QE(a b s:Nat):(a*2 ^ s) % (b*2 ^ s) / 2 ^ s=a % b:=by
 rw[Nat.mul_mod_mul_right,Nat.mul_div_cancel _ (qbB (by omega))]
end Big
end Go.Proofs.YtkoaogkknnelaaaGreatDoor
