import Derived.Test.YtkoaogkknnelaaaGreatDoorM38
set_option linter.unusedVariables false
set_option linter.unusedSimpArgs false
namespace Go.Proofs.YtkoaogkknnelaaaGreatDoor
namespace Big
open Go.RowKit
def UD(x:Nd)(L:List X2):Bool:=
 decide ((x.kind=9/\(L.getD 1 X2.O).st=1/\(L.getD 1 X2.O).p=0)\/(x.kind=10/\x.n<0/\(L.getD 0 X2.O).st=1/\(L.getD 0 X2.O).p=0)\/(x.kind=11/\(L.getD 0 X2.O).st=1/\(L.getD 0 X2.O).p<0)\/(x.kind=13/\(L.getD 0 X2.O).st=1/\(L.getD 0 X2.O).p<=0))
theorem X2.Ok.three{y:X2}(h:y.Ok):y.st=0\/y.st=1\/y.st=2:=by
 rcases h with ⟨h,_⟩|rfl|rfl
 ·exact .inr (.inl h)
 ·exact .inl rfl
 ·exact .inr (.inr rfl)
theorem Cn.one{B:Nat}{w:World}{v:Value}{y:X2}(h:Cn B w v [y]):∃g c b A n k A' n' k',v= .slice (some ⟨g,0,none⟩) 1 c/\GZ w g 0 b A n k A' n' k'/\Aj 0 w (.agg #[.bool b,.slice A n k,.slice A' n' k']) y.p y.q:=by
 obtain⟨g,c,hv,_,_,b,A,n,k,A',n',k',h1,h2⟩:=h.at (i:=0) (by simp);exact⟨g,c,b,A,n,k,A',n',k',hv,by simpa using h1,by simpa using h2⟩
theorem Cn.two{B:Nat}{w:World}{v:Value}{y z:X2}(h:Cn B w v [y,z]):∃g c b A n k A' n' k' f C i j C' i' j',v= .slice (some ⟨g,0,none⟩) 2 c/\GZ w g 0 b A n k A' n' k'/\Aj 0 w (.agg #[.bool b,.slice A n k,.slice A' n' k']) y.p y.q/\GZ w g 3 f C i j C' i' j'/\Aj 0 w (.agg #[.bool f,.slice C i j,.slice C' i' j']) z.p z.q:=by
 obtain⟨g,c,hv,_,_,b,A,n,k,A',n',k',h1,h2⟩:=h.at (i:=0) (by simp);obtain⟨g2,c2,hv2,_,_,f,C,i,j,C',i',j',h3,h4⟩:=h.at (i:=1) (by simp);rw[hv]at hv2;injection hv2 with e1 _ e2
 injection e1 with e1
 injection e1 with e1
 subst e1;exact⟨g,c,b,A,n,k,A',n',k',f,C,i,j,C',i',j',hv,by simpa using h1,by simpa using h2,by simpa using h3,by simpa using h4⟩
structure TR (w0 wr W:World) (v s:Value) (n1 n2:Nat) (cs ss:List Value):Prop where
 e:Ext w0 W
 k:KU wr W
 r:W.ownsRow w0.heap.size 26 3 v n1 cs
 s:W.ownsRow w0.heap.size 3 1 s n2 ss
theorem TR.ext{w0 wr W W':World}{v s:Value}{n1 n2:Nat}{cs ss:List Value}(h:TR w0 wr W v s n1 n2 cs ss)(hx:Ext W W'):TR w0 wr W' v s n1 n2 cs ss:=
 ⟨h.e.trans hx,h.k.trans (KU.of_ext hx),Af h.r (fun k _ hk=>hx.block k hk),Af h.s (fun k _ hk=>hx.block k hk)⟩
theorem TR.row{w0 wr W W':World}{v s v':Value}{n1 n2 n':Nat}{cs ss VQ:List Value}(h:TR w0 wr W v s n1 n2 cs ss)(hg:W.grownBy W' v.ownBlock)(ho:W'.ownsRow w0.heap.size 26 3 v' n' VQ):TR w0 wr W' v' s n' n2 VQ ss:=
 ⟨h.e.grown hg (AH h.r),h.k.trans (KU.grown hg (KM h.r (by decide))),ho,M9 h.r h.s (by decide) hg⟩
section
open Go
variable {P:Program} {ops:Array Oper} {Q:Exit->Act->World->Prop} {md:Region.Mode} {S:World->Prop}
theorem tk (i d:Nat) {p t s af gd} {v:Value} {fuel:Nat} {listed:Array Bool} {a:Act} {w:World} (hi:ops[i]? =some ⟨some d,p,t,s,af,gd⟩)
  (hc:(Region.noSelect ops && Region.free md ops listed i && (Region.ready md ops listed).contains i)=true)
  (hQ:∀c a w,Q (.panic c) (a.put (some d) v) w->Q (.panic c) a w) (hw:Region.wanted ⟨some d,p,t,s,af,gd⟩ (yielded ops a.tmps)=true) (hS:S w)
  (hy:∀w',S w'->(execOp a.eval ⟨some d,p,t,s,af,gd⟩).run P w'= .ok (.value v) w')
  (h:wpAnyH P md ops Q S fuel (listed.setIfInBounds i true) (a.put (some d) v) w):wpAnyH P md ops Q S (fuel+1) listed a w:=by
 simp only[Bool.and_eq_true]at hc;exact wpAnyH_take hi hc.1.1 hc.1.2 hc.2 hQ (Or.inl ⟨hw,hy⟩) hS h
theorem pu:(∀(a:Act) (d:Nat) (v:Value),a.put (some d) v={ a with tmps:=a.tmps.setIfInBounds d v })/\(∀(a:Act) (v:Value),a.put none v=a)/\(∀(l:List Value) (i:Nat) (v:Value),l.toArray.setIfInBounds i v=(l.set i v).toArray)/\(∀(x v:Value) (l:List Value),(x::l).set 0 v=v::l)/\(∀(x v:Value) (l:List Value) (i:Nat),(x::l).set (i+1) v=x::l.set i v):=
 ⟨fun _ _ _=>rfl,fun _ _=>rfl,fun _ _ _=>List.setIfInBounds_toArray ..,fun _ _ _=>rfl,fun _ _ _ _=>rfl⟩
end
theorem Cn.tr{w0 wr W:World}{v s:Value}{n2:Nat}{cs ss:List Value}{T:List X2}{x:X2}{b:Bool}{A:Option Addr}{n c:Nat}{A':Option Addr}{n' c':Nat}(h:TR w0 wr W v s (T.length+1) n2 (cs++[.bool b,.slice A n c,.slice A' n' c']) ss)(hr:Ds wr cs T)(hx:Aj 0 wr (.agg #[.bool b,.slice A n c,.slice A' n' c']) x.p x.q):Cn w0.heap.size W v (T++[x]):=Cn.push (v:=v) hr h.k h.r hx
theorem CZ.tr{w0 wr W:World}{v s:Value}{n1:Nat}{cs:List Value}{T:List X2}{x:X2}(h:TR w0 wr W v s n1 (T.length+1) cs (T.map (fun x=>Value.int .i64 (x.st:Int))++[.int .i64 (x.st:Int)])):CZ w0.heap.size W s (T++[x]):=CZ.push h.s
end Big
end Go.Proofs.YtkoaogkknnelaaaGreatDoor
