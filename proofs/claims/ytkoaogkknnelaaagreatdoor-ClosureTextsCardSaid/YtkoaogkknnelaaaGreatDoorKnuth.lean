import Derived.Test.YtkoaogkknnelaaaGreatDoorM1
import Derived.Test.YtkoaogkknnelaaaGreatDoorM1
set_option linter.unusedVariables false
set_option linter.unusedSimpArgs false
namespace Go.Proofs.YtkoaogkknnelaaaGreatDoor
namespace Big
namespace Knuth
structure Setup (B u v v1 v2 M top u0:Nat):Prop where
 hv:∃y,y<M/\v=(v1*B+v2)*M+y
 hu:∃y,y<M/\u=(top*B+u0)*M+y
 lt:u<v*B
 b1:1<=v1
 b2:v2<B
 b0:u0<B
 M1:1<=M
variable {B u v v1 v2 M top u0 g r:Nat}
theorem Setup.vpos(s:Setup B u v v1 v2 M top u0):1<=v:=by
 rcases qar v with h|h
 ·have:=s.lt;rw[h,Nat.zero_mul]at this;omega
 ·exact h
theorem Setup.q_lt(s:Setup B u v v1 v2 M top u0):u / v<B:=by
 rw[Nat.div_lt_iff_lt_mul s.vpos,qbb];exact s.lt
theorem Setup.q_top(s:Setup B u v v1 v2 M top u0):u / v*(v1*B+v2)<=top*B+u0:=by
 obtain⟨y,hy,hv⟩:=s.hv;obtain⟨z,hz,hu⟩:=s.hu;have h1:u / v*v<=u:=Nat.div_mul_le_self u v;have h2:u / v*((v1*B+v2)*M)<=u / v*v:=qaN _ (by omega);rw[<-qaY]at h2;have h3:(u / v*(v1*B+v2))*M<(top*B+u0+1)*M:=by
  rw[qbm,qbC];omega
 have:=qbN h3;omega
theorem Setup.q_first(s:Setup B u v v1 v2 M top u0):u / v*v1<=top:=by
 have h:=s.q_top;rw[qaI,<-qaY]at h;have h0:=s.b0;have h1:u / v*v1*B<(top+1)*B:=by
  rw[qbm,qbC];omega
 have:=qbN h1;omega
theorem Setup.lower(s:Setup B u v v1 v2 M top u0)(hg:g*v1+r=top)(hq:u / v<=g)(h:B<=g\/r*B+u0<g*v2):u / v+1<=g:=by
 rcases qam (u / v) g with h1|h1
 ·exact h1
 ·exfalso
  have he:u / v=g:=by omega
  rcases h with h|h
  ·have:=s.q_lt;omega
  ·have h2:=s.q_top;rw[he,qaI,<-qaY,<-hg,qbm]at h2;omega
theorem Setup.done(_s:Setup B u v v1 v2 M top u0)(hg:g*v1+r=top)(h:g*v2<=r*B+u0):g*(v1*B+v2)<=top*B+u0:=by
 rw[qaI,<-qaY,<-hg,qbm];omega
theorem Setup.top_lt(s:Setup B u v v1 v2 M top u0):top<(v1+1)*B:=by
 obtain⟨y,hy,hv⟩:=s.hv;obtain⟨z,hz,hu⟩:=s.hu;have h1:(top*B)*M<=u:=by
  rw[hu,qbm];omega
 have h2:v<((v1+1)*B)*M:=by
  rw[hv];have h3:(v1*B+v2+1)*M<=((v1+1)*B)*M:=qbf _ (by rw[qbm,qbC];have:=s.b2;omega);rw[qbm,qbC]at h3;omega
 have h4:(top*B)*M<(((v1+1)*B)*M)*B:=qbD h1 (qaj s.lt (qbf _ (qaR h2)));have h5:(top*B)*M<(((v1+1)*B)*B)*M:=by
  have e:(((v1+1)*B)*B)*M=(((v1+1)*B)*M)*B:=Nat.mul_right_comm _ _ _;rw[e];exact h4
 exact qbN (qbN h5)
theorem Setup.broken(s:Setup B u v v1 v2 M top u0)(hg:g*v1+r=top)(hr:B<=r):g<B/\g*v2<=r*B+u0:=by
 have h1:=s.top_lt;rw[qbm,qbC]at h1;have h2:g*v1<B*v1:=by
  rw[qbb B v1];omega
 have h3:g<B:=qbN h2;refine⟨h3,?_⟩;have h4:g*v2<=B*B:=Nat.mul_le_mul (qaR h3) (qaR s.b2);have h5:B*B<=r*B:=qbf _ hr;omega
theorem Setup.near(s:Setup B u v v1 v2 M top u0)(hb:g<B)(h:g*(v1*B+v2)<=top*B+u0):g<=u / v+1:=by
 obtain⟨y,hy,hv⟩:=s.hv;obtain⟨z,hz,hu⟩:=s.hu;have h1:g*v<=u+v:=by
  have e:g*v=g*(v1*B+v2)*M+g*y:=by rw[hv,qaI,qaY]
  have h2:g*(v1*B+v2)*M<=(top*B+u0)*M:=qbf _ h;have h3:g*y<=B*M:=Nat.mul_le_mul (qaR hb) (qaR hy);have h4:B*M<=v:=by
   rw[hv];have h5:(1*B)*M<=(v1*B+v2)*M:=qbf _ (qaf (qbf _ s.b1) (Nat.le_add_right _ _));rw[qbC]at h5;exact qaf h5 (Nat.le_add_right _ _)
  rw[e];exact Nat.add_le_add (qaf h2 (by rw[hu];exact Nat.le_add_right _ _)) (qaf h3 h4)
 rcases qar g with h0|h0
 ·rw[h0];exact qal _
 ·have h2:(g-1)*v<=u:=by
   rw[Nat.sub_mul,qbC];omega
  exact Nat.sub_le_iff_le_add.1 ((Nat.le_div_iff_mul_le s.vpos).2 h2)
end Knuth
end Big
end Go.Proofs.YtkoaogkknnelaaaGreatDoor
