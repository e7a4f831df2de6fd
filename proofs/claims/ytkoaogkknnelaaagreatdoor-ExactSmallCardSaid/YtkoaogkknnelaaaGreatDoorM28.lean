import Derived.Test.YtkoaogkknnelaaaGreatDoorM27
import Derived.Maps.Own
import Derived.DeepKeys4
import Derived.ChangeMaps
import Derived.Maps.OwnSet
import Derived.Below
set_option linter.unusedVariables false
set_option linter.unusedSimpArgs false
set_option maxRecDepth 100000
namespace Go.Proofs.YtkoaogkknnelaaaGreatDoor
namespace Big
open Lib (hid)
open Go.RowKit
theorem Oy{z:Int}{d M L:Nat}(hz:(Ac z.natAbs).length<=M)(hd:(Ac d).length<=L):(Ac (Dy z d).natAbs).length<=M/\(Ac (C9 z d)).length<=L:=by
 rw[Ek];exact⟨Nat.le_trans (Ar (Nat.div_le_self _ _)) hz,Nat.le_trans (Ar (Nat.div_le_self _ _)) hd⟩
theorem KW{p r:Int}{q s N:Nat}(a:(Ac p.natAbs).length<=N)(b:(Ac q).length<=N)(c:(Ac r.natAbs).length<=N)(d:(Ac s).length<=N):(Ac (MR p q r s).natAbs).length<=4*N+1/\(Ac (MQ p q r s)).length<=4*N+1:=by
 have h1:(Ac (p*(s:Int)).natAbs).length<=2*N:=by rw[Int.natAbs_mul,Int.natAbs_natCast];have:=AD a d;omega
 have h2:(Ac (r*(q:Int)).natAbs).length<=2*N:=by rw[Int.natAbs_mul,Int.natAbs_natCast];have:=AD c b;omega
 have h3:(Ac (LA p q r s).natAbs).length<=4*N+1:=by unfold LA;have:=ER h1 h2;omega
 have h4:(Ac (q*s)).length<=4*N+1:=by have:=AD b d;omega
 exact Oy h3 h4
theorem KV{p r:Int}{q s N:Nat}(a:(Ac p.natAbs).length<=N)(b:(Ac q).length<=N)(c:(Ac r.natAbs).length<=N)(d:(Ac s).length<=N):(Ac (IC p q r s).natAbs).length<=2*N/\(Ac (IB p q r s)).length<=2*N:=by
 have h1:(Ac (p*r).natAbs).length<=2*N:=by rw[Int.natAbs_mul];have:=AD a c;omega
 have h4:(Ac (q*s)).length<=2*N:=by have:=AD b d;omega
 exact Oy h1 h4
theorem E8{r:Int}{s N:Nat}(c:(Ac r.natAbs).length<=N)(d:(Ac s).length<=N):(Ac (CM r s).natAbs).length<=N/\(Ac r.natAbs).length<=N:=by
 unfold CM;rw[B6];exact⟨d,c⟩
theorem QU{r:Int}{N:Nat}(c:(Ac r.natAbs).length<=N):(Ac (-r).natAbs).length<=N:=by rw[Int.natAbs_neg];exact c
theorem H7{p:Int}{q N:Nat}(hp:(Ac p.natAbs).length<=N)(hq:(Ac q).length<=N)(hN:N<=100000000)(W:World)(v u:Value)(a:Ao W v p q)(b:Ao W u p q):
  Calls Tryz.prog 18 #[v,u] W fun e w'=>e= .returned (.bool true)/\Ext W w':=by
 have:=Ns W v p q a (by omega) (by omega) u p q b (by omega) (by omega);rw[decide_eq_true (⟨rfl,rfl⟩:p=p/\q=q)]at this;exact this
theorem Qx{xs:List Nat}{i k s:Nat}(az:Ok xs)(hi:i=32*k+s)(hs:s<32):xs.getD k 0 / 2 ^ s % 2=val xs / 2 ^ i % 2:=by
 have h1:=Bp xs k;have h2:=BN az k;have h3:=Bi xs k;have e1:val xs / 4294967296 ^ k=val (xs.drop k):=by
  rw[h1,Nat.add_mul_div_left _ _ (Nat.pow_pos (by decide)),Nat.div_eq_of_lt h2,Nat.zero_add]
 rw[hi,Nat.pow_add,<-Nat.div_div_eq_div_mul,Nat.pow_mul,show (2:Nat) ^ 32=4294967296 from rfl,e1,h3];obtain⟨t,ht⟩:∃t,32=s+(t+1):=⟨31-s,by omega⟩;have e2:4294967296=2 ^ s*(2 ^ t*2):=by
  rw[<-Nat.pow_succ,<-Nat.pow_add,<-ht]
 generalize val (xs.drop (k+1))=r;rw[e2,Nat.mul_assoc,Nat.add_mul_div_left _ _ (Nat.pow_pos (by decide)),show 2 ^ t*2*r=2*(2 ^ t*r) by rw[Nat.mul_comm (2 ^ t) 2,Nat.mul_assoc],Nat.add_mul_mod_self_left]
theorem Rl(w:World)(v:Value)(xs:List Nat)(i:Nat)(h:Arr w v xs)(hi:i<34359738368):
  Calls Tryz.prog 179 #[v,.int .i64 (i:Int)] w fun e w'=>e= .returned (.bool (decide (val xs / 2 ^ i % 2=1)))/\w=w':=by
 obtain⟨k,s,hs,tW⟩:∃k s,s<32/\i=32*k+s:=⟨i / 32,i % 32,by omega,by omega⟩;have HV:=hid (Qx h.ok tW hs);have hq:(i:Int) / 32=(k:Int):=by omega
 have hr:(i:Int) % 32=(s:Int):=by omega
 have fP:=hid (Do w v xs (k:Int) h (by omega));rw[Int.toNat_natCast]at fP;have cK:=h.ok.get k;have ob:(2:Int) ^ s=((2 ^ s:Nat):Int):=by simp
 have zY:0<2 ^ s:=Nat.pow_pos (by omega);have aB:(0:Int)<=(i:Int):=by omega
 have fu:k<1073741824:=by omega
 rw[<-HV.out];clear HV tW h hi;generalize xs.getD k 0=x at *;obtain⟨P,hP⟩:∃P,2 ^ s=P:=⟨_,rfl⟩;rw[hP]at ob zY ⊢;clear hP;have hdv:(x:Int) / (P:Int)=((x / P:Nat):Int):=rfl;obtain⟨y,hy⟩:∃y,x / P=y:=⟨_,rfl⟩;rw[hy]at hdv ⊢;have yi:y<4294967296:=by rw[<-hy];exact Nat.lt_of_le_of_lt (Nat.div_le_self _ _) cK
 clear hy;have hmd:(y:Int) % 2=((y % 2:Nat):Int):=rfl;have ba:y % 2<2:=by omega
 generalize y % 2=z at *;have eS:((z:Int) == 1)=decide (z=1):=by
  rw[Bool.eq_iff_iff,beq_iff_eq,decide_eq_true_iff];omega
 generalize decide (z=1)=bb at *;go_enter Tryz.func179,Tryz.ntmps179;go_wp2_with fail;refine fP.out.mono ?_
 rintro e w' ⟨rfl,rfl⟩;go_wp2_with fail
 all_goals go_ret
 exact⟨rfl,rfl⟩
theorem SB{V n:Nat}(h:V<2 ^ n)(h1:V / 2 ^ (n-1) % 2=1)(hn:0<n):AG V=n:=by
 obtain⟨m,rfl⟩:∃m,n=m+1:=⟨n-1,by omega⟩;rw[Nat.add_sub_cancel]at h1;refine MM ?_ h
 rcases Nat.lt_or_ge V (2 ^ m) with hl|hl
 ·rw[Nat.div_eq_of_lt hl]at h1;omega
 ·exact hl
theorem Qw{V n:Nat}(h:V<2 ^ (n+1))(h1:¬V / 2 ^ n % 2=1):V<2 ^ n:=by
 have h2:V / 2 ^ n<2:=by
  rw[Nat.div_lt_iff_lt_mul (Nat.pow_pos (by decide)),Nat.mul_comm,<-Nat.pow_succ];exact h
 have h3:V / 2 ^ n=0:=by
  generalize V / 2 ^ n=t at *;omega
 rcases Nat.lt_or_ge V (2 ^ n) with hl|hl
 ·exact hl
 ·have:=Nat.div_pos hl (Nat.pow_pos (by decide));omega
theorem Hj(w:World)(v:Value)(xs:List Nat)(h:Arr w v xs)(hn:xs.length<=134217728):
  Calls Tryz.prog 136 #[v] w fun e w'=>e= .returned (.int .i64 (AG (val xs):Nat))/\Ext w w':=by
 have HB:=hid (fun W i (hx:Ext w W)=>Rl W v xs i (h.ext hx));have hlt:val xs<2 ^ (32*xs.length):=by
  rw[Nat.pow_mul];exact Cf h.ok
 obtain⟨L,hL⟩:∃L,xs.length=L:=⟨_,rfl⟩;rw[hL]at hlt hn;obtain⟨_,A,c,rfl,_,_,_⟩:=h.open;rw[hL]at HB ⊢;clear h hL;generalize val xs=V at *;have dM:=hid hlt;clear hlt;go_enter Tryz.func136,Tryz.ntmps136;go_wp2_with fail;go_loopw [3] (fun s1 wr=>∃n:Nat,n<=32*L/\s1= .int .i64 (n:Int)/\V<2 ^ n/\Ext w wr) (fun s1 _=>(intOf s1).toNat)
 case atStart=>exact⟨32*L,Nat.le_refl _,by go_num,dM.out,Ext.refl _⟩
 case round=>
  obtain⟨n,hn2,rfl,hV,hx⟩:=hrel;have HX:=hid hx;have HV:=hid hV;clear hx hV;rcases Nat.eq_zero_or_pos n with h0|h0
  ·subst h0;have hz:V=0:=by have:=HV.out;omega
   subst hz;go_wp2_with fail;go_ret;exact⟨by congr 2,HX.out⟩
  ·obtain⟨m,rfl⟩:∃m,n=m+1:=⟨n-1,by omega⟩;have gM:((m+1:Nat):Int)-1=(m:Int):=by omega
   have mc:IntKind.i64.wrap (((m+1:Nat):Int)-1)=(m:Int):=by rw[gM];exact IntWalk.i64_in _ (by omega)
   have hp:(0:Int)<((m+1:Nat):Int):=by omega
   by_cases hb:V / 2 ^ m % 2=1
   ·have hd:decide (V / 2 ^ m % 2=1)=true:=decide_eq_true hb;have HE:=hid (SB HV.out hb (by omega));go_wp2_with fail;refine(HB.out _ m HX.out (by omega)).mono ?_
    rintro e w' ⟨rfl,rfl⟩;go_wp2_with fail;go_ret;refine⟨?_,HX.out⟩;rw[HE.out];rfl
   ·have hd:decide (V / 2 ^ m % 2=1)=false:=decide_eq_false hb;have HE:=hid (Qw HV.out hb);go_wp2_with fail;refine(HB.out _ m HX.out (by omega)).mono ?_
    rintro e w' ⟨rfl,rfl⟩;go_wp2_with fail;go_roundw
    case rel=>exact⟨m,by omega,by go_num,HE.out,HX.out⟩
    case measure=>simp[intOf]
theorem PK(w:World)(v0:Value)(p:Int)(q:Nat)(h0:Ao w v0 p q)(n0:(Ac p.natAbs).length<=100000)(m0:(Ac q).length<=100000):
  Calls Tryz.prog 73 #[v0] w fun e w'=>e= .returned (.int .i64 ((max (AG p.natAbs) (AG q):Nat):Int))/\Ext w w':=by
 have H0:=hid h0;have HA:=hid (fun W m (a:Arr W m (Ac p.natAbs))=>((D8 W m (Ac p.natAbs) a (by omega)).mono fun _ _ h=>⟨h.1,h.2 ▸ Ext.refl _⟩:Calls Tryz.prog 135 #[m] W fun e w'=>e= .returned (.int .i64 (AG (val (Ac p.natAbs)):Nat))/\Ext W w'));have HB:=hid (fun W m (a:Arr W m (Ac q))=>((D8 W m (Ac q) a (by omega)).mono fun _ _ h=>⟨h.1,h.2 ▸ Ext.refl _⟩:Calls Tryz.prog 135 #[m] W fun e w'=>e= .returned (.int .i64 (AG (val (Ac q)):Nat))/\Ext W w'));rw[Ad]at HA HB;obtain⟨b0,l0,A0,c0,k0,D0,e0,rfl⟩:=h0.shape;clear h0 n0 m0;generalize AG p.natAbs=x at *;generalize AG q=y at *;obtain⟨z,hz⟩:∃z,max x y=z:=⟨_,rfl⟩;have dT:max (x:Int) (y:Int)=(z:Int):=by omega
 have zq:(if (x:Int)<(y:Int) then (y:Int) else (x:Int))=(z:Int):=by split<;>omega
 have zp:(if (y:Int)<=(x:Int) then (x:Int) else (y:Int))=(z:Int):=by split<;>omega
 rw[hz];clear hz;go_enter Tryz.func73,Tryz.ntmps73;go_wp2_with fail;have hb0:=(Blk.new w 26 #[.bool b0,.slice A0 l0 c0,.slice D0 k0 e0]);have aq:=((Ext.refl w).alloc (.cells #[.bool b0,.slice A0 l0 c0,.slice D0 k0 e0] 26));have am:w.heap.size+1=(w.alloc (.cells #[.bool b0,.slice A0 l0 c0,.slice D0 k0 e0] 26)).heap.size:=by simp
 generalize w.alloc (.cells #[.bool b0,.slice A0 l0 c0,.slice D0 k0 e0] 26)=wo at *;obtain⟨bC,bB,cr,_,_,_,_⟩:=hb0.three;clear hb0
 go_region_held3 (fun w'=>Ext w w'/\w'.cell? ⟨w.heap.size,0,none⟩=some (Value.bool b0)/\w'.cell? ⟨w.heap.size,1,none⟩=some (Value.slice A0 l0 c0)/\w'.cell? ⟨w.heap.size,2,none⟩=some (Value.slice D0 k0 e0))
  (first|(exact⟨aq.drew,bC,bB,cr⟩)|(exact Fr (by assumption) (by assumption))|(exact Fr (by assumption) (Ext.refl _)))
  (first
   |(go_at_call 135;have cN:=aE;refine(HB.out _ _ (H0.out.den.ext (And.left (by assumption)))).mono ?_;rintro e w2 ⟨rfl,ag⟩;have hz1:=ag.size)
   |(go_at_call 135;refine(HA.out _ _ (H0.out.num.ext (And.left (by assumption)))).mono ?_;rintro e w1 ⟨rfl,hx0⟩;have aE:=hx0.size))
 all_goals go_wp2_with fail
 rename_i hS;obtain⟨hE,_,_,_⟩:=hS;simp only[World.size_drew]at aE;go_ret;exact⟨rfl,hE⟩
theorem Pr(w:World)(v0:Value)(p:Int)(q:Nat)(h0:Ao w v0 p q)(n0:(Ac p.natAbs).length<=100000)(m0:(Ac q).length<=100000):
  Calls Tryz.prog 74 #[v0] w fun e w'=>e= .returned (.int .i64 ((max (AG p.natAbs) (AG q):Nat):Int))/\Ext w w':=by
 have H0:=hid h0;have HA:=hid (fun W m (a:Arr W m (Ac p.natAbs))=>(Hj W m (Ac p.natAbs) a (by omega):Calls Tryz.prog 136 #[m] W fun e w'=>e= .returned (.int .i64 (AG (val (Ac p.natAbs)):Nat))/\Ext W w'));have HB:=hid (fun W m (a:Arr W m (Ac q))=>(Hj W m (Ac q) a (by omega):Calls Tryz.prog 136 #[m] W fun e w'=>e= .returned (.int .i64 (AG (val (Ac q)):Nat))/\Ext W w'));rw[Ad]at HA HB;obtain⟨b0,l0,A0,c0,k0,D0,e0,rfl⟩:=h0.shape;clear h0 n0 m0;generalize AG p.natAbs=x at *;generalize AG q=y at *;obtain⟨z,hz⟩:∃z,max x y=z:=⟨_,rfl⟩;have dT:max (x:Int) (y:Int)=(z:Int):=by omega
 have zq:(if (x:Int)<(y:Int) then (y:Int) else (x:Int))=(z:Int):=by split<;>omega
 have zp:(if (y:Int)<=(x:Int) then (x:Int) else (y:Int))=(z:Int):=by split<;>omega
 rw[hz];clear hz;go_enter Tryz.func74,Tryz.ntmps74;go_wp2_with fail;have hb0:=(Blk.new w 26 #[.bool b0,.slice A0 l0 c0,.slice D0 k0 e0]);have aq:=((Ext.refl w).alloc (.cells #[.bool b0,.slice A0 l0 c0,.slice D0 k0 e0] 26));have am:w.heap.size+1=(w.alloc (.cells #[.bool b0,.slice A0 l0 c0,.slice D0 k0 e0] 26)).heap.size:=by simp
 generalize w.alloc (.cells #[.bool b0,.slice A0 l0 c0,.slice D0 k0 e0] 26)=wo at *;obtain⟨bC,bB,cr,_,_,_,_⟩:=hb0.three;clear hb0
 go_region_held3 (fun w'=>Ext w w'/\w'.cell? ⟨w.heap.size,0,none⟩=some (Value.bool b0)/\w'.cell? ⟨w.heap.size,1,none⟩=some (Value.slice A0 l0 c0)/\w'.cell? ⟨w.heap.size,2,none⟩=some (Value.slice D0 k0 e0))
  (first|(exact⟨aq.drew,bC,bB,cr⟩)|(exact Fr (by assumption) (by assumption))|(exact Fr (by assumption) (Ext.refl _)))
  (first
   |(go_at_call 136;have cN:=aE;refine(HB.out _ _ (H0.out.den.ext (And.left (by assumption)))).mono ?_;rintro e w2 ⟨rfl,ag⟩;have hz1:=ag.size)
   |(go_at_call 136;refine(HA.out _ _ (H0.out.num.ext (And.left (by assumption)))).mono ?_;rintro e w1 ⟨rfl,hx0⟩;have aE:=hx0.size))
 all_goals go_wp2_with fail
 rename_i hS;obtain⟨hE,_,_,_⟩:=hS;simp only[World.size_drew]at aE;go_ret;exact⟨rfl,hE⟩
structure FX (x:Nd):Prop where
 kind:(Lit.int .i64 x.kind).wf=true
 a:(Lit.int .i64 x.a).wf=true
 b:(Lit.int .i64 x.b).wf=true
 n:(Lit.int .i64 x.n).wf=true
 text:x.text.length<=maxLen
theorem P5:laidOutB Tryz.prog=true:=by kernel_rfl
theorem D3:Go.Maps.Keyed Tryz.prog 95:=
 Go.Maps.Keyed.of_law (deep_law_laid P5 (m:=3) (by omega) (of_decide_eq_true (by kernel_rfl)) (by kernel_rfl) (by rw[Tryz.underlying95]))
theorem Ln:Tryz.prog.keyType 95=true:=by kernel_rfl
theorem JM:Tryz.prog.cellsOf 95=5:=by kernel_rfl
theorem Qv:Tryz.prog.cellsOf 3=1:=by kernel_rfl
theorem Lw:Tryz.prog.cellsOf 9=1:=by kernel_rfl
theorem JB(x:Nd)(h:FX x):∃l,keyOf Tryz.prog 95 (ndV x)=some l:=by
 have hs:(⟨x.text.toArray⟩:ByteArray).size<=maxLen:=by
  have:=h.text;rw[Co];exact this
 obtain⟨m,hm⟩:∃m,Tryz.prog.types.size=m+1:=⟨Tryz.prog.types.size-1,by
  have:0<Tryz.prog.types.size:=of_decide_eq_true (by kernel_rfl);omega⟩
 obtain⟨q0,q1,q2,q3,_⟩:=h;refine Option.isSome_iff_exists.1 ?_
 unfold keyOf;rw[Tryz.underlying95];simp only[Ln,Bool.true_and];rw[if_pos (by simp[ndV,Value.formed,Tryz.underlying95,JM]),hm];unfold Program.keyLits;rw[Tryz.underlying95];simp[ndV,Value.cells,JM,Qv,Lw,Program.keyLits,Tryz.underlying3,Tryz.underlying9,str,hs,q0,q1,q2,q3]
open Go.RowKit Go.ChangeMaps
def nmE(ns:List Nd):List (Value × Value):=(List.range ns.length).map fun i=>(ndV (ns.getD i ⟨0,0,0,0,[]⟩),.int .i64 (i:Int))
theorem CE(ns:List Nd):(nmE ns).length=ns.length:=by simp[nmE]
theorem GD(ns:List Nd)(i:Nat)(h:i<ns.length):(nmE ns)[i]? =some (ndV ns[i],.int .i64 (i:Int)):=by
 unfold nmE;rw[List.getElem?_map,List.getElem?_range h,Option.map_some,List.getD_eq_getElem?_getD,List.getElem?_eq_getElem h,Option.getD_some]
theorem RC(ns:List Nd)(x:Nd):nmE (ns++[x])=nmE ns++[(ndV x,.int .i64 (ns.length:Int))]:=by
 apply List.ext_getElem?;intro i;rcases Nat.lt_trichotomy i ns.length with h|h|h
 ·rw[GD _ _ (by simp;omega),List.getElem?_append_left (by rw[CE];exact h),GD _ _ h,List.getElem_append_left h]
 ·subst h;rw[GD _ _ (by simp),List.getElem?_append_right (by rw[CE];exact Nat.le_refl _),CE];simp
 ·rw[List.getElem?_eq_none (by rw[CE];simp;omega),List.getElem?_eq_none (by rw[List.length_append,CE];simp;omega)]
theorem Ox{x y:Nd}(h:ndV x=ndV y):x=y:=by
 obtain⟨a0,a1,a2,a3,a4⟩:=x;obtain⟨b0,b1,b2,b3,b4⟩:=y;unfold ndV at h;simp only[Value.agg.injEq,Array.mk.injEq,List.cons.injEq,Value.int.injEq,true_and,and_true]at h;obtain⟨rfl,rfl,rfl,rfl,h5⟩:=h;unfold str at h5;injection h5 with h5
 injection h5 with h5
 have h6:=congrArg Array.toList h5;simp only[List.toList_toArray]at h6;rw[h6]
def DO(w:World)(b:Nat)(ns:List Nd):Prop:=
 ∃es clock,w.heap[b]? =some (.map es clock)/\es.toList.map (fun e=>(e.key,e.val))=nmE ns
theorem DO.made(w:World):DO (w.alloc (.map #[] 0)) w.heap.size []:=⟨#[],0,(MapKept.heap_alloc w _).1,rfl⟩
theorem DO.lt{w:World}{b:Nat}{ns:List Nd}(h:DO w b ns):b<w.heap.size:=by
 obtain⟨es,clock,hb,_⟩:=h;exact(Array.getElem?_eq_some_iff.1 hb).1
theorem DO.kept{w w':World}{b:Nat}{ns:List Nd}(h:DO w b ns)(hk:w'.heap[b]? =w.heap[b]?):DO w' b ns:=by
 obtain⟨es,clock,hb,h2⟩:=h;exact⟨es,clock,hk.trans hb,h2⟩
theorem DO.keys{es:Array MapEntry}{ns:List Nd}(h:es.toList.map (fun e=>(e.key,e.val))=nmE ns)(hk:∀x∈ns,FX x):∀e∈es.toList,∃l,keyOf Tryz.prog 95 e.key=some l:=by
 intro e he;obtain⟨i,hi,rfl⟩:=List.getElem_of_mem he;have hl:es.toList.length=ns.length:=by rw[<-CE ns,<-h,List.length_map]
 have h2:(es.toList.map (fun e=>(e.key,e.val)))[i]? =some (ndV (ns[i]'(by omega)),.int .i64 (i:Int)):=by rw[h,GD]
 rw[List.getElem?_map,List.getElem?_eq_getElem hi,Option.map_some]at h2;injection h2 with h2
 injection h2 with h2 _
 rw[h2];exact JB _ (hk _ (List.getElem_mem _))
theorem DO.entry{es:Array MapEntry}{ns:List Nd}(h:es.toList.map (fun e=>(e.key,e.val))=nmE ns){j:Nat}{e:MapEntry}(he:es.toList[j]? =some e):∃hj:j<ns.length,e.key=ndV ns[j]/\e.val= .int .i64 (j:Int):=by
 have hl:es.toList.length=ns.length:=by rw[<-CE ns,<-h,List.length_map]
 have hj:j<ns.length:=by rw[<-hl];exact(List.getElem?_eq_some_iff.1 he).1
 have h2:(es.toList.map (fun e=>(e.key,e.val)))[j]? =some (ndV ns[j],.int .i64 (j:Int)):=by rw[h,GD _ _ hj]
 rw[List.getElem?_map,he,Option.map_some]at h2;injection h2 with h2
 injection h2 with h2 h3
 exact⟨hj,h2,h3⟩
def F5(x:Nd)(ns:List Nd):Int:=if x∈ns then (Cv x ns:Int) else 0
theorem DO.look{w:World}{b:Nat}{ns:List Nd}(h:DO w b ns)(hk:∀x∈ns,FX x)(hn:ns.Nodup)(x:Nd)(hx:FX x){t:TypeId}(ht:Tryz.prog.underlying t=some (.map 95 3)):
  (Instr.lookup t (.map (some b)) (ndV x) true).run Tryz.prog w= .ok (.tuple #[.int .i64 (F5 x ns),.bool (decide (x∈ns))]) w:=by
 obtain⟨es,clock,hb,he⟩:=h;obtain⟨l,hl⟩:=JB x hx;have hz:(zeroValue 3).run Tryz.prog w= .ok (.int .i64 0) w:=by kernel_rfl
 have aF:es.toList.length=ns.length:=by rw[<-CE ns,<-he,List.length_map]
 rcases D3.find w hl es.toList (DO.keys he hk) with ⟨h1,h2⟩|⟨j,e0,h1,h2,h3⟩
 ·have ma:x∉ns:=fun hm=>by
   obtain⟨i,hi,rfl⟩:=List.getElem_of_mem hm;have ax:i<es.toList.length:=by omega
   obtain⟨_,q,_⟩:=DO.entry he (List.getElem?_eq_getElem ax);exact h2 _ (List.getElem_mem ax) q
  rw[F5,if_neg ma,decide_eq_false ma];simp[Instr.lookup,run_underlying ht,MapKept.run_getObj_map hb,D3.check w _ hl,h1,hz,Result.andThen]
 ·obtain⟨hj,q1,q2⟩:=DO.entry he h2;have bN:x=ns[j]:=Ox (h3.symm.trans q1);have hm:x∈ns:=by rw[bN];exact List.getElem_mem hj
  have hp:Cv x ns=j:=by rw[bN];exact Ku hn hj
  rw[F5,if_pos hm,decide_eq_true hm,hp,<-q2];simp[Instr.lookup,run_underlying ht,MapKept.run_getObj_map hb,D3.check w _ hl,h1,Result.andThen]
theorem DO.store{w:World}{b:Nat}{ns:List Nd}(h:DO w b ns)(hk:∀x∈ns,FX x)(x:Nd)(hx:FX x)(ma:x∉ns){t:TypeId}(ht:Tryz.prog.underlying t=some (.map 95 3)):
  ∃w',(Instr.mapUpdate t (.map (some b)) (ndV x) (.int .i64 (ns.length:Int))).run Tryz.prog w= .ok () w'/\DO w' b (ns++[x])/\w.grownBy w' (some b):=by
 obtain⟨es,clock,hb,he⟩:=h;obtain⟨l,hl⟩:=JB x hx;rcases D3.find w hl es.toList (DO.keys he hk) with ⟨h1,h2⟩|⟨j,e0,h1,h2,h3⟩
 ·refine⟨setBlock w b (.map (es.push ⟨ndV x,.int .i64 (ns.length:Int),clock⟩) (clock+1)),?_,⟨_,_,heap_setBlock_same hb _,?_⟩,⟨rfl,rfl,rfl,by simp[setBlock],fun i _ hi=>heap_setBlock_other hb _ (fun e=>hi (by rw[e]))⟩⟩
  ·simp[Instr.mapUpdate,run_underlying ht,MapKept.run_getObj_map hb,D3.check w false hl,h1,MapKept.run_setObj_map _ hb,Result.andThen,setBlock]
  ·rw[Array.toList_push,List.map_append,he,RC];rfl
 ·obtain⟨hj,q1,_⟩:=DO.entry he h2;exact absurd (by rw[Ox (h3.symm.trans q1)];exact List.getElem_mem hj) ma
end Big
end Go.Proofs.YtkoaogkknnelaaaGreatDoor
