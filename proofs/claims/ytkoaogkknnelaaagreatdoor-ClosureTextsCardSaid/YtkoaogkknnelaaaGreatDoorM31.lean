import Derived.Test.YtkoaogkknnelaaaGreatDoorM30
import Derived.Laws.AppendOwnNone
set_option linter.unusedVariables false
set_option linter.unusedSimpArgs false
set_option maxHeartbeats 4000000
set_option maxRecDepth 100000
namespace Go.Proofs.YtkoaogkknnelaaaGreatDoor
namespace Big
open Lib renaming hid → J
open Go.RowKit
theorem OL{env:Env}{t:Tx}{k:Nat}(hk:k<env.length)(h:∀b∈env.take k,b.1≠t):(env[k].1=t->AH env t=env[k].2)/\(env[k].1≠t->∀b∈env.take (k+1),b.1≠t):=by
 constructor
 ·intro he;have h2:=Q0 (env.take k) (env.drop k) t;rw[qbo]at h2;rw[h2,if_neg (by rintro⟨x,hx,e⟩;exact h x hx e),qbQ hk,AH,if_pos he]
 ·intro hne b hb;rw[qah hk]at hb;rcases qax.1 hb with hb|hb
  ·exact h b hb
  ·rw[qav]at hb;subst hb;exact hne
theorem NK{a b:Tx}{s u:ByteArray}(h1:str a= .string s)(h2:str b= .string u):(s.toList == u.toList)=decide (a=b):=by
 have e1:s=⟨a.toArray⟩:=by
  unfold str at h1;injection h1 with h1
  exact h1.symm
 have e2:u=⟨b.toArray⟩:=by
  unfold str at h2;injection h2 with h2
  exact h2.symm
 rw[e1,e2,ByteArray.toList_mk,ByteArray.toList_mk,qbi];simp
theorem FI(w:World)(v:Value)(env:Env)(h:RdE w v env)(hn:env.length<=100000)(t:Tx):
  Calls Tryz.prog 51 #[v,str t] w fun e w'=>e= .returned (.int .i64 (AH env t))/\Ext w w':=by
 obtain⟨A,c,rfl,bj⟩:=h;have cw:=J bj;obtain⟨n,bB⟩:∃n,n=env.length:=⟨_,rfl⟩;have HN:=J bB;rw[<-bB]at hn ⊢;obtain⟨u,hu⟩:∃u:ByteArray,str t= .string u:=⟨_,rfl⟩;have HU:=J hu;rw[hu];clear bj bB hu;go_enter Tryz.func51,Tryz.ntmps51;go_wp2_with fail;go_loopw [9,6] (fun s9 _ wr=>∃k:Nat,k<=n/\s9= .int .i64 (k:Int)/\(∀b∈env.take k,b.1≠t)/\Ext w wr) (fun s9 _ _=>n-(intOf s9).toNat)
 case atStart=>exact⟨0,qal _,rfl,by rw[qaK];exact(fun b hb=>by cases hb),Ext.refl _⟩
 case round=>
  obtain⟨k,hk,rfl,hno,hx⟩:=hrel;have HX:=J hx;by_cases hlt:k<n
  ·have bT:k<env.length:=by rw[<-HN.o];exact hlt
   obtain⟨gb,o,rfl,bC,hc⟩:=cw.o (by omega);obtain⟨p0,p1⟩:=hc k bT;rw[<-hx.cell bC]at p0 p1;have g3:(0:Int)<=(k:Int):=by omega
   have oC:(k:Int)<(n:Int):=by omega
   have jn:IntKind.i64.wrap ((k:Int)+1)=(k:Int)+1:=IntWalk.i64_in _ (by omega);have dP:=J (OL bT hno);clear hc hx hno;generalize env[k]=y at *;obtain⟨t',z⟩:=y;simp only at p0 p1 dP;obtain⟨s,hs⟩:∃s:ByteArray,str t'= .string s:=⟨_,rfl⟩;rw[hs]at p0;have oc:=NK hs HU.o;clear hs bT;go_upto_region 4 with fail;have gl:=Blk.new wr 62 #[.string s,.int .i64 z];have bG:=(Ext.refl wr).alloc (.cells #[.string s,.int .i64 z] 62);generalize wr.alloc (.cells #[.string s,.int .i64 z] 62)=w7 at *;generalize wr.heap.size=nb at *;obtain⟨q0,q1⟩:=gl.twoB;have aN:=J (HX.o.trans bG);clear gl bG p0 p1;by_cases he:t'=t
   ·rw[decide_eq_true he]at oc;have HF:=J (dP.o.1 he);clear he;go_wp2_with fail;go_ret;exact⟨by rw[HF.o];rfl,aN.o⟩
   ·rw[decide_eq_false he]at oc;have HF:=J (dP.o.2 he);clear he;go_wp2_with fail;go_roundw
    ·exact⟨k+1,hlt,by go_num,HF.o,aN.o⟩
    ·simp only[intOf];omega
  ·obtain rfl:k=n:=by omega
   have HF:Hid (AH env t= -1):=J (JO (by rw[show env.take k=env from qak (by rw[<-HN.o];exact qad _)]at hno;exact hno));clear hno hx;go_wp2_with fail;go_ret;exact⟨by rw[HF.o];rfl,HX.o⟩
theorem P9(w:World)(v:Value)(ls:List Tx)(h:BB w v ls)(hn:ls.length<=1000000)(t:Tx):
  Calls Tryz.prog 101 #[v,str t] w fun e w'=>e= .returned (.bool (decide (t∈ls)))/\w=w':=by
 obtain⟨A,c,rfl,bj⟩:=h;rw[qag];have cw:=J bj;obtain⟨n,bB⟩:∃n,n=ls.length:=⟨_,rfl⟩;have HN:=J bB;rw[<-bB]at hn ⊢;obtain⟨u,hu⟩:∃u:ByteArray,str t= .string u:=⟨_,rfl⟩;have HU:=J hu;rw[hu];clear bj bB hu;go_enter Tryz.func101,Tryz.ntmps101;go_wp2_with fail;go_loopw [9,6] (fun s9 _ wr=>∃k:Nat,k<=n/\s9= .int .i64 (k:Int)/\t∉ls.take k/\wr=w) (fun s9 _ _=>n-(intOf s9).toNat)
 case atStart=>exact⟨0,qal _,rfl,by simp,rfl⟩
 case round=>
  obtain⟨k,hk,rfl,hno,rfl⟩:=hrel;by_cases hlt:k<n
  ·have bT:k<ls.length:=by rw[<-HN.o];exact hlt
   obtain⟨_,_,bj⟩:=cw.o;obtain⟨gb,o,rfl,bC,hc⟩:=bj (by rw[qag];omega);have p0:=hc k (str ls[k]) (by rw[qaD,qaa bT];rfl);have g3:(0:Int)<=(k:Int):=by omega
   have oC:(k:Int)<(n:Int):=by omega
   have jn:IntKind.i64.wrap ((k:Int)+1)=(k:Int)+1:=IntWalk.i64_in _ (by omega);have dP:Hid (ls.take (k+1)=ls.take k++[ls[k]]):=J (qah bT);have WM:=J (qap bT);have aQ:=J hno;clear hc bj hno;generalize ls[k]=y at *;obtain⟨s,hs⟩:∃s:ByteArray,str y= .string s:=⟨_,rfl⟩;rw[hs]at p0;have oc:=NK hs HU.o;clear hs bT;by_cases he:y=t
   ·rw[decide_eq_true he]at oc;have HF:Hid (decide (t∈ls)=true):=J (decide_eq_true (he ▸ WM.o));clear he;go_wp2_with fail;go_ret;exact⟨by rw[HF.o];rfl,rfl⟩
   ·rw[decide_eq_false he]at oc;have HF:Hid (t∉ls.take (k+1)):=J (by
     rw[dP.o];intro h;rcases qax.1 h with h|h
     ·exact aQ.o h
     ·rw[qav]at h;exact he h.symm)
    clear he;go_wp2_with fail;go_roundw
    ·exact⟨k+1,hlt,by go_num,HF.o,trivial⟩
    ·simp only[intOf];omega
  ·obtain rfl:k=n:=by omega
   have HF:Hid (decide (t∈ls)=false):=J (decide_eq_false (by rw[show ls.take k=ls from qak (by rw[<-HN.o];exact qad _)]at hno;exact hno));clear hno;go_wp2_with fail;go_ret;exact⟨by rw[HF.o];rfl,rfl⟩
theorem QO:(Tryz.prog.info? 62).map (fun i=>(i.zero,i.size,i.bytes))=some (some (.agg #[.string ⟨#[]⟩,.int .i64 0]),2,24):=by kernel_rfl
def bdC(b:Tx × Int):List Value:=[str b.1,.int .i64 b.2]
def D0(env:Env):List Value:=env.flatMap bdC
theorem II(a b:Env):D0 (a++b)=D0 a++D0 b:=by unfold D0;rw[List.flatMap_append]
theorem JY(b:Tx × Int):D0 [b]=bdC b:=by simp[D0]
theorem IG:∀env:Env,(D0 env).length=env.length*2
 |[]=>rfl
 |b::l=>by
  rw[show b::l=[b]++l from rfl,II,qab,IG l,JY,qab];simp only[bdC,qat,qaE];omega
theorem Nm:∀(env:Env) (i:Nat) (h:i<env.length),(D0 env)[i*2]? =some (str env[i].1)/\(D0 env)[i*2+1]? =some (.int .i64 env[i].2)
 |b::l,0,_=>by
  have e:D0 (b::l)=bdC b++D0 l:=by simp[D0]
  rw[e];exact⟨rfl,rfl⟩
 |b::l,i+1,h=>by
  have ih:=Nm l i (by simpa using h);have e:D0 (b::l)=bdC b++D0 l:=by simp[D0]
  rw[e];rw[qao (by simp[bdC];omega),qao (by simp[bdC];omega)];simp only[bdC,qat,qaE,List.getElem_cons_succ,qbt,qaG];exact⟨by rw[show (i+1)*2-(0+1+1)=i*2 by omega];exact ih.1,by rw[show (i+1)*2+1-(0+1+1)=i*2+1 by omega];exact ih.2⟩
theorem Rf(env:Env):∀u∈D0 env,u.oneCell'=true:=by
 intro u hu;unfold D0 at hu;obtain⟨x,_,hu⟩:=List.mem_flatMap.1 hu;simp only[bdC,qay,qbP,or_false]at hu;rcases hu with rfl|rfl<;>rfl
def BG(B:Nat)(w:World)(v:Value)(env:Env):Prop:=w.ownsRow B 62 2 v env.length (D0 env)
section
variable {B B':Nat} {w w':World} {v:Value} {env:Env}
theorem BG.nil(B:Nat)(w:World):BG B w (.slice none 0 0) []:=⟨rfl,.inl ⟨rfl,rfl⟩⟩
theorem BG.ext(h:BG B w v env)(hx:Ext w w'):BG B w' v env:=Ac h (fun k _ hk=>hx.block k hk)
theorem BG.mono(h:BG B w v env)(hB:B'<=B):BG B' w v env:=⟨h.1,h.2.imp id (fun ⟨g,cap,cur,q1,q2,q3⟩=>⟨g,cap,cur,q1,qaf hB q2,q3⟩)⟩
theorem BG.shape(h:BG B w v env):∃A c,v= .slice A env.length c:=Ao h
theorem BG.read(h:BG B w v env):RdE w v env:=by
 have h':=h;obtain⟨hl,⟨rfl,h2⟩|⟨g,cap,cur,rfl,_,hg,eA,_,hs,ht⟩⟩:=h
 ·have:env=[]:=qau h2;subst this;exact⟨none,0,rfl,fun h=>absurd h (by decide)⟩
 ·refine⟨some ⟨g,0,none⟩,cap,rfl,fun hp=>⟨g,0,rfl,?_,fun i hi=> ?_⟩⟩
  ·rcases qam g w.heap.size with h|h
   ·exact h
   ·rw[qba h]at hg;cases hg
  ·have hc:∀j,j<env.length*2->w.cell? ⟨g,j,none⟩=(D0 env)[j]? :=fun j hj=>by
    rw[cell_of_row w g j cur 62 (0,0) hg,<-ht,qcm,if_pos hj,qcc]
   obtain⟨g1,g2⟩:=Nm env i hi;rw[qaF];exact⟨(hc (i*2) (by omega)).trans g1,(hc (i*2+1) (by omega)).trans g2⟩
end
theorem Fz {w:World} {v:Value} {xs ys:Env} {B:Nat} {ii:Array Oper} {rest:List Oper} {o:Oper} {a:Act} {Q:Exit->Act->World->Prop} (be:o.guard=none) (s x:Operand)
  (ho:o.op= .call { callee:= .builtin .append,args:= #[s,x],argTypes:= #[60,60] })
  (hs:a.eval s=v) (ac:BG B w v xs) (ad:Addr) (c:Nat) (hx:a.eval x= .slice (some ad) ys.length c) (fu:∀j u,(D0 ys)[j]? =some u->w.cell? (ad.add j)=some u) (hn:xs.length+ys.length<=1000000) (bx:B<=w.heap.size)
  (h:∀v' w',BG B w' v' (xs++ys)->w.grownBy w' v.ownBlock->Below B w w'->wpList Tryz.prog ii Q rest (a.put o.dst v') w'):wpList Tryz.prog ii Q (o::rest) a w:=by
 obtain⟨i0,hi,aR,hz1,aU⟩:=info_parts QO;refine wpList_append_own w be s x 60 ho B 62 i0 _ 2 24 Tryz.underlying60 hi aR hz1 aU rfl (by decide) v xs.length (D0 xs) hs ac ad ys.length c (D0 ys) hx (IG ys) fu (Rf ys) (by unfold maxLen;omega) (by omega) bx (fun v' w' h1 h2 _=>h v' w' ?_ h2 ?_)
 ·unfold BG;rw[II,qab];exact h1
 ·exact Below.grown (Below.refl B w) h2 bx (fun k hk=>Ay ac k hk)
end Big
end Go.Proofs.YtkoaogkknnelaaaGreatDoor
