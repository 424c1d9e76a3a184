/- Between, by the two ways' product. -/
import Derived.Test.YtpkkcjmblocjdaaGreatH17
import Derived.Test.YtpkkcjmblocjdaaGreatH5
set_option linter.unusedVariables false
set_option linter.unusedSimpArgs false
set_option linter.unusedSectionVars false
namespace Go.Proofs.YtpkkcjmblocjdaaGreat.Pure
open Go.RowKit Go.Proofs.YtpkkcjmblocjdaaGreat.AM
theorem zmj {u v s t:Int} (h1:u≠0) (h2:u*t=v*s) (h3:(0≤s∧s≤u)∨(u≤s∧s≤0)):(0≤t∧t≤v)∨(v≤t∧t≤0):=by
 by_cases h:0<u
 ·exact conv (N:=u) (M:=s) (by omega) (by omega) h (by rw [h2,Int.mul_comm])
 ·exact conv (N:=-u) (M:=-s) (by omega) (by omega) (by omega) (by rw [Int.neg_mul,h2,Int.neg_mul,Int.mul_comm])
theorem zg6 {s u:Int} (h:0≤s*(u-s)):(0≤s∧s≤u)∨(u≤s∧s≤0):=by
 rcases Int.lt_trichotomy s 0 with hs|hs|hs
 ·right
  refine ⟨?_,by omega⟩
  apply Decidable.byContradiction
  intro hn
  have:=Int.mul_neg_of_neg_of_pos hs (show 0<u-s by omega)
  omega
 ·subst hs;omega
 ·left
  refine ⟨by omega,?_⟩
  apply Decidable.byContradiction
  intro hn
  have:=Int.mul_neg_of_pos_of_neg hs (show u-s<0 by omega)
  omega
theorem zg1 {s u:Int} (h:(0≤s∧s≤u)∨(u≤s∧s≤0)):0≤s*(u-s):=by
 rcases h with ⟨h1,h2⟩|⟨h1,h2⟩
 ·exact Int.mul_nonneg h1 (by omega)
 ·exact Int.mul_nonneg_of_nonpos_of_nonpos h2 (by omega)
theorem zya {a b p:Pt} (hab:a≠b) (hc:crs a b p=0):0≤(p.1-a.1)*(b.1-p.1)+(p.2-a.2)*(b.2-p.2)↔Btw a.1 b.1 p.1∧Btw a.2 b.2 p.2:=by
 have e1:b.1-p.1=(b.1-a.1)-(p.1-a.1):=by omega
 have e2:b.2-p.2=(b.2-a.2)-(p.2-a.2):=by omega
 rw [e1,e2]
 unfold crs at hc
 have hne:b.1-a.1≠0∨b.2-a.2≠0:=by
  apply Decidable.byContradiction
  intro hh
  exact hab (by cases a;cases b;simp at *;omega)
 have bt:∀x y z:Int,((0≤z-x∧z-x≤y-x)∨(y-x≤z-x∧z-x≤0))↔Btw x y z:=by intro x y z;unfold Btw;omega
 rw [←bt,←bt]
 generalize b.1-a.1=u at *
 generalize b.2-a.2=v at *
 generalize p.1-a.1=s at *
 generalize p.2-a.2=t at *
 constructor
 ·intro h
  rcases hne with hu|hu
  ·have k:0≤s*(u-s):=by
    have hp:0<u*u+v*v:=by
     have h1:0<u*u:=by rcases Int.lt_or_gt_of_ne hu with q|q;exact Int.mul_pos_of_neg_of_neg q q;exact Int.mul_pos q q
     have h2:0≤v*v:=by rcases Int.le_total 0 v with q|q;exact Int.mul_nonneg q q;exact Int.mul_nonneg_of_nonpos_of_nonpos q q
     omega
    have hq:0≤u*u:=by rcases Int.le_total 0 u with q|q;exact Int.mul_nonneg q q;exact Int.mul_nonneg_of_nonpos_of_nonpos q q
    have e:(u*u+v*v)*(s*(u-s))=u*u*(s*(u-s)+t*(v-t)):=by grind
    have:=Int.mul_nonneg hq h
    apply Decidable.byContradiction
    intro hn
    have:=Int.mul_neg_of_pos_of_neg hp (show s*(u-s)<0 by omega)
    omega
   have w:=zg6 k
   exact ⟨w,zmj hu (by omega) w⟩
  ·have k:0≤t*(v-t):=by
    have hp:0<u*u+v*v:=by
     have h1:0<v*v:=by rcases Int.lt_or_gt_of_ne hu with q|q;exact Int.mul_pos_of_neg_of_neg q q;exact Int.mul_pos q q
     have h2:0≤u*u:=by rcases Int.le_total 0 u with q|q;exact Int.mul_nonneg q q;exact Int.mul_nonneg_of_nonpos_of_nonpos q q
     omega
    have hq:0≤v*v:=by rcases Int.le_total 0 v with q|q;exact Int.mul_nonneg q q;exact Int.mul_nonneg_of_nonpos_of_nonpos q q
    have e:(u*u+v*v)*(t*(v-t))=v*v*(s*(u-s)+t*(v-t)):=by grind
    have:=Int.mul_nonneg hq h
    apply Decidable.byContradiction
    intro hn
    have:=Int.mul_neg_of_pos_of_neg hp (show t*(v-t)<0 by omega)
    omega
   have w:=zg6 k
   exact ⟨zmj hu (by omega) w,w⟩
 ·rintro ⟨h1,h2⟩
  have:=zg1 h1
  have:=zg1 h2
  omega
end Go.Proofs.YtpkkcjmblocjdaaGreat.Pure
