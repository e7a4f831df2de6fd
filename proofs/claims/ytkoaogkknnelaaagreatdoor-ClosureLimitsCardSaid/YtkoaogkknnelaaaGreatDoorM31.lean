import Derived.Test.YtkoaogkknnelaaaGreatDoorM30
import Derived.Laws.AppendOwnNone
set_option linter.unusedVariables false
set_option linter.unusedSimpArgs false
set_option maxHeartbeats 4000000
set_option maxRecDepth 100000
namespace Go.Proofs.YtkoaogkknnelaaaGreatDoor
namespace Big
open Lib renaming hid → J
open Go.RowKit
theorem Oq{env:Env}{t:Tx}{k:Nat}(hk:k<env.length)(h:∀b∈env.take k,b.1≠t):(env[k].1=t->Ao env t=env[k].2)/\(env[k].1≠t->∀b∈env.take (k+1),b.1≠t):=by
 constructor
 ·intro he;have h2:=H8 (env.take k) (env.drop k) t;rw[List.take_append_drop]at h2;rw[h2,if_neg (by rintro⟨x,hx,e⟩;exact h x hx e),List.drop_eq_getElem_cons hk,Ao,if_pos he]
 ·intro hne b hb;rw[List.take_succ_eq_append_getElem hk]at hb;rcases List.mem_append.1 hb with hb|hb
  ·exact h b hb
  ·rw[List.mem_singleton]at hb;subst hb;exact hne
theorem I7{a b:Tx}{s u:ByteArray}(h1:str a= .string s)(h2:str b= .string u):(s.toList == u.toList)=decide (a=b):=by
 have e1:s=⟨a.toArray⟩:=by
  unfold str at h1;injection h1 with h1
  exact h1.symm
 have e2:u=⟨b.toArray⟩:=by
  unfold str at h2;injection h2 with h2
  exact h2.symm
 rw[e1,e2,ByteArray.toList_mk,ByteArray.toList_mk,Bool.eq_iff_iff];simp
theorem DS(w:World)(v:Value)(env:Env)(h:RdE w v env)(hn:env.length<=100000)(t:Tx):
  Calls Tryz.prog 51 #[v,str t] w fun e w'=>e= .returned (.int .i64 (Ao env t))/\Ext w w':=by
 obtain⟨A,c,rfl,aB⟩:=h;have bH:=J aB;obtain⟨n,bh⟩:∃n,n=env.length:=⟨_,rfl⟩;have HN:=J bh;rw[<-bh]at hn ⊢;obtain⟨u,hu⟩:∃u:ByteArray,str t= .string u:=⟨_,rfl⟩;have HU:=J hu;rw[hu];clear aB bh hu;go_enter Tryz.func51,Tryz.ntmps51;go_wp2_with fail;go_loopw [9,6] (fun s9 _ wr=>∃k:Nat,k<=n/\s9= .int .i64 (k:Int)/\(∀b∈env.take k,b.1≠t)/\Ext w wr) (fun s9 _ _=>n-(intOf s9).toNat)
 case atStart=>exact⟨0,Nat.zero_le _,rfl,by rw[List.take_zero];exact(fun b hb=>by cases hb),Ext.refl _⟩
 case round=>
  obtain⟨k,hk,rfl,hno,hx⟩:=hrel;have HX:=J hx;by_cases hlt:k<n
  ·have bB:k<env.length:=by rw[<-HN.o];exact hlt
   obtain⟨gb,o,rfl,bO,hc⟩:=bH.o (by omega);obtain⟨p0,p1⟩:=hc k bB;rw[<-hx.cell bO]at p0 p1;have fy:(0:Int)<=(k:Int):=by omega
   have lD:(k:Int)<(n:Int):=by omega
   have iW:IntKind.i64.wrap ((k:Int)+1)=(k:Int)+1:=IntWalk.i64_in _ (by omega);have cA:=J (Oq bB hno);clear hc hx hno;generalize env[k]=y at *;obtain⟨t',z⟩:=y;simp only at p0 p1 cA;obtain⟨s,hs⟩:∃s:ByteArray,str t'= .string s:=⟨_,rfl⟩;rw[hs]at p0;have ks:=I7 hs HU.o;clear hs bB;go_upto_region 4 with fail;have dx:=Blk.new wr 62 #[.string s,.int .i64 z];have bq:=(Ext.refl wr).alloc (.cells #[.string s,.int .i64 z] 62);generalize wr.alloc (.cells #[.string s,.int .i64 z] 62)=w7 at *;generalize wr.heap.size=nb at *;obtain⟨q0,q1⟩:=dx.twoB;have ay:=J (HX.o.trans bq);clear dx bq p0 p1;by_cases he:t'=t
   ·rw[decide_eq_true he]at ks;have HF:=J (cA.o.1 he);clear he;go_wp2_with fail;go_ret;exact⟨by rw[HF.o];rfl,ay.o⟩
   ·rw[decide_eq_false he]at ks;have HF:=J (cA.o.2 he);clear he;go_wp2_with fail;go_roundw
    ·exact⟨k+1,hlt,by go_num,HF.o,ay.o⟩
    ·simp only[intOf];omega
  ·obtain rfl:k=n:=by omega
   have HF:Hid (Ao env t= -1):=J (Fm (by rw[show env.take k=env from List.take_of_length_le (by rw[<-HN.o];exact Nat.le_refl _)]at hno;exact hno));clear hno hx;go_wp2_with fail;go_ret;exact⟨by rw[HF.o];rfl,HX.o⟩
theorem Hw(w:World)(v:Value)(ls:List Tx)(h:Bl w v ls)(hn:ls.length<=1000000)(t:Tx):
  Calls Tryz.prog 101 #[v,str t] w fun e w'=>e= .returned (.bool (decide (t∈ls)))/\w=w':=by
 obtain⟨A,c,rfl,aB⟩:=h;rw[List.length_map];have bH:=J aB;obtain⟨n,bh⟩:∃n,n=ls.length:=⟨_,rfl⟩;have HN:=J bh;rw[<-bh]at hn ⊢;obtain⟨u,hu⟩:∃u:ByteArray,str t= .string u:=⟨_,rfl⟩;have HU:=J hu;rw[hu];clear aB bh hu;go_enter Tryz.func101,Tryz.ntmps101;go_wp2_with fail;go_loopw [9,6] (fun s9 _ wr=>∃k:Nat,k<=n/\s9= .int .i64 (k:Int)/\t∉ls.take k/\wr=w) (fun s9 _ _=>n-(intOf s9).toNat)
 case atStart=>exact⟨0,Nat.zero_le _,rfl,by simp,rfl⟩
 case round=>
  obtain⟨k,hk,rfl,hno,rfl⟩:=hrel;by_cases hlt:k<n
  ·have bB:k<ls.length:=by rw[<-HN.o];exact hlt
   obtain⟨_,_,aB⟩:=bH.o;obtain⟨gb,o,rfl,bO,hc⟩:=aB (by rw[List.length_map];omega);have p0:=hc k (str ls[k]) (by rw[List.getElem?_map,List.getElem?_eq_getElem bB];rfl);have fy:(0:Int)<=(k:Int):=by omega
   have lD:(k:Int)<(n:Int):=by omega
   have iW:IntKind.i64.wrap ((k:Int)+1)=(k:Int)+1:=IntWalk.i64_in _ (by omega);have cA:Hid (ls.take (k+1)=ls.take k++[ls[k]]):=J (List.take_succ_eq_append_getElem bB);have Vb:=J (List.getElem_mem bB);have aN:=J hno;clear hc aB hno;generalize ls[k]=y at *;obtain⟨s,hs⟩:∃s:ByteArray,str y= .string s:=⟨_,rfl⟩;rw[hs]at p0;have ks:=I7 hs HU.o;clear hs bB;by_cases he:y=t
   ·rw[decide_eq_true he]at ks;have HF:Hid (decide (t∈ls)=true):=J (decide_eq_true (he ▸ Vb.o));clear he;go_wp2_with fail;go_ret;exact⟨by rw[HF.o];rfl,rfl⟩
   ·rw[decide_eq_false he]at ks;have HF:Hid (t∉ls.take (k+1)):=J (by
     rw[cA.o];intro h;rcases List.mem_append.1 h with h|h
     ·exact aN.o h
     ·rw[List.mem_singleton]at h;exact he h.symm)
    clear he;go_wp2_with fail;go_roundw
    ·exact⟨k+1,hlt,by go_num,HF.o,trivial⟩
    ·simp only[intOf];omega
  ·obtain rfl:k=n:=by omega
   have HF:Hid (decide (t∈ls)=false):=J (decide_eq_false (by rw[show ls.take k=ls from List.take_of_length_le (by rw[<-HN.o];exact Nat.le_refl _)]at hno;exact hno));clear hno;go_wp2_with fail;go_ret;exact⟨by rw[HF.o];rfl,rfl⟩
theorem K0:(Tryz.prog.info? 62).map (fun i=>(i.zero,i.size,i.bytes))=some (some (.agg #[.string ⟨#[]⟩,.int .i64 0]),2,24):=by kernel_rfl
def bdC(b:Tx × Int):List Value:=[str b.1,.int .i64 b.2]
def Dn(env:Env):List Value:=env.flatMap bdC
theorem IN(a b:Env):Dn (a++b)=Dn a++Dn b:=by unfold Dn;rw[List.flatMap_append]
theorem EA(b:Tx × Int):Dn [b]=bdC b:=by simp[Dn]
theorem FZ:∀env:Env,(Dn env).length=env.length*2
 |[]=>rfl
 |b::l=>by
  rw[show b::l=[b]++l from rfl,IN,List.length_append,FZ l,EA,List.length_append];simp only[bdC,List.length_cons,List.length_nil];omega
theorem Na:∀(env:Env) (i:Nat) (h:i<env.length),(Dn env)[i*2]? =some (str env[i].1)/\(Dn env)[i*2+1]? =some (.int .i64 env[i].2)
 |b::l,0,_=>by
  have e:Dn (b::l)=bdC b++Dn l:=by simp[Dn]
  rw[e];exact⟨rfl,rfl⟩
 |b::l,i+1,h=>by
  have ih:=Na l i (by simpa using h);have e:Dn (b::l)=bdC b++Dn l:=by simp[Dn]
  rw[e];rw[List.getElem?_append_right (by simp[bdC];omega),List.getElem?_append_right (by simp[bdC];omega)];simp only[bdC,List.length_cons,List.length_nil,List.getElem_cons_succ,List.cons_append,List.nil_append];exact⟨by rw[show (i+1)*2-(0+1+1)=i*2 by omega];exact ih.1,by rw[show (i+1)*2+1-(0+1+1)=i*2+1 by omega];exact ih.2⟩
theorem QJ(env:Env):∀u∈Dn env,u.oneCell'=true:=by
 intro u hu;unfold Dn at hu;obtain⟨x,_,hu⟩:=List.mem_flatMap.1 hu;simp only[bdC,List.mem_cons,List.not_mem_nil,or_false]at hu;rcases hu with rfl|rfl<;>rfl
def AG(B:Nat)(w:World)(v:Value)(env:Env):Prop:=w.ownsRow B 62 2 v env.length (Dn env)
section
variable {B B':Nat} {w w':World} {v:Value} {env:Env}
theorem AG.nil(B:Nat)(w:World):AG B w (.slice none 0 0) []:=⟨rfl,.inl ⟨rfl,rfl⟩⟩
theorem AG.ext(h:AG B w v env)(hx:Ext w w'):AG B w' v env:=Ad h (fun k _ hk=>hx.block k hk)
theorem AG.mono(h:AG B w v env)(hB:B'<=B):AG B' w v env:=⟨h.1,h.2.imp id (fun ⟨g,cap,cur,q1,q2,q3⟩=>⟨g,cap,cur,q1,Nat.le_trans hB q2,q3⟩)⟩
theorem AG.shape(h:AG B w v env):∃A c,v= .slice A env.length c:=Am h
theorem AG.read(h:AG B w v env):RdE w v env:=by
 have h':=h;obtain⟨hl,⟨rfl,h2⟩|⟨g,cap,cur,rfl,_,hg,dK,_,hs,ht⟩⟩:=h
 ·have:env=[]:=List.eq_nil_of_length_eq_zero h2;subst this;exact⟨none,0,rfl,fun h=>absurd h (by decide)⟩
 ·refine⟨some ⟨g,0,none⟩,cap,rfl,fun hp=>⟨g,0,rfl,?_,fun i hi=> ?_⟩⟩
  ·rcases Nat.lt_or_ge g w.heap.size with h|h
   ·exact h
   ·rw[Array.getElem?_eq_none h]at hg;cases hg
  ·have hc:∀j,j<env.length*2->w.cell? ⟨g,j,none⟩=(Dn env)[j]? :=fun j hj=>by
    rw[cell_of_row w g j cur 62 (0,0) hg,<-ht,List.getElem?_take,if_pos hj,Array.getElem?_toList]
   obtain⟨g1,g2⟩:=Na env i hi;rw[Nat.zero_add];exact⟨(hc (i*2) (by omega)).trans g1,(hc (i*2+1) (by omega)).trans g2⟩
end
theorem BO {w:World} {v:Value} {xs ys:Env} {B:Nat} {ops:Array Oper} {rest:List Oper} {o:Oper} {a:Act} {Q:Exit->Act->World->Prop} (eT:o.guard=none) (s x:Operand)
  (ho:o.op= .call { callee:= .builtin .append,args:= #[s,x],argTypes:= #[60,60] })
  (hs:a.eval s=v) (ag:AG B w v xs) (ad:Addr) (c:Nat) (hx:a.eval x= .slice (some ad) ys.length c) (ig:∀j u,(Dn ys)[j]? =some u->w.cell? (ad.add j)=some u) (hn:xs.length+ys.length<=1000000) (bj:B<=w.heap.size)
  (h:∀v' w',AG B w' v' (xs++ys)->w.grownBy w' v.ownBlock->Below B w w'->wpList Tryz.prog ops Q rest (a.put o.dst v') w'):wpList Tryz.prog ops Q (o::rest) a w:=by
 obtain⟨i0,hi,aU,hz1,a9⟩:=info_parts K0;refine wpList_append_own w eT s x 60 ho B 62 i0 _ 2 24 Tryz.underlying60 hi aU hz1 a9 rfl (by decide) v xs.length (Dn xs) hs ag ad ys.length c (Dn ys) hx (FZ ys) ig (QJ ys) (by unfold maxLen;omega) (by omega) bj (fun v' w' h1 h2 _=>h v' w' ?_ h2 ?_)
 ·unfold AG;rw[IN,List.length_append];exact h1
 ·exact Below.grown (Below.refl B w) h2 bj (fun k hk=>AC ag k hk)
theorem NF(w:World)(v u:Value)(l:List Nd)(h:RNd w v l)(h':RNd w u l)(hn:l.length<=1000000):Calls Tryz.prog 39 #[v,u] w fun e w'=>e= .returned (.bool true)/\Dr w w':=by
 obtain⟨A,c,rfl,H1⟩:=h;obtain⟨A',c',rfl,H2⟩:=h';have HH1:=J H1;have HH2:=J H2;clear H1 H2;obtain⟨n,bh⟩:∃n,n=l.length:=⟨_,rfl⟩;have HN:=J bh;rw[<-bh]at hn;rw[<-bh];clear bh;go_enter Tryz.func39,Tryz.ntmps39;go_wp2_with fail;go_loopw [8] (fun s8 wr=>∃i:Nat,i<=n/\s8= .int .i64 (i:Int)/\Dr w wr) (fun s8 _=>n-(intOf s8).toNat)
 case atStart=>exact⟨0,Nat.zero_le _,rfl,Dr.refl w⟩
 case round=>
  obtain⟨i,hi,rfl,hd⟩:=hrel;have HD:=J hd;by_cases hlt:i<n
  ·have hit:i<l.length:=by rw[<-HN.o];exact hlt
   obtain⟨g,o,rfl,bO,hc⟩:=HH1.o (by omega);obtain⟨g',o',rfl,YI,hc'⟩:=HH2.o (by omega);obtain⟨k0,k1,k2,k3,k4⟩:=hc i hit;obtain⟨j0,j1,j2,j3,j4⟩:=hc' i hit;rw[<-hd.cell]at k0 k1 k2 k3 k4 j0 j1 j2 j3 j4;clear hc hc' hd;have ai:str l[i].text= .string ⟨l[i].text.toArray⟩:=rfl;rw[ai]at k4 j4;clear ai;generalize (⟨l[i].text.toArray⟩:ByteArray)=t at *;generalize l[i].kind=y0 at *;generalize l[i].a=y1 at *;generalize l[i].b=y2 at *;generalize l[i].n=y3 at *;have o9:decide ((0:Int)<=(i:Int))=true:=by simp
   have hnb:((n:Int) != (n:Int))=false:=by simp
   go_wp2_with fail;go_quiet (fail);go_wp2_with fail;go_roundw
   case rel=>exact⟨i+1,by omega,by go_num,HD.o.drewN _⟩
   case measure=>simp[intOf];omega
  ·obtain rfl:i=n:=by omega
   clear hd;have hne:((i:Int) == (i:Int))=true:=by simp
   go_wp2_with fail;go_ret;exact⟨rfl,HD.o⟩
theorem RNd.shape{w:World}{v:Value}{l:List Nd}(h:RNd w v l):∃A c,v= .slice A l.length c:=by
 obtain⟨A,c,h,_⟩:=h;exact⟨A,c,h⟩
end Big
end Go.Proofs.YtkoaogkknnelaaaGreatDoor
