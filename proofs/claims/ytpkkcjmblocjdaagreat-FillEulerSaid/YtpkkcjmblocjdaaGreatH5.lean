/- A place inside a segment, as a part of the way. -/
import Derived.Test.YtpkkcjmblocjdaaGreatH4
set_option linter.unusedVariables false
set_option linter.unusedSimpArgs false
set_option linter.unusedSectionVars false
namespace Go.Proofs.YtpkkcjmblocjdaaGreat.Pure
open Go.RowKit Go.Proofs.YtpkkcjmblocjdaaGreat.AM
theorem zoh {n x:Int} (hn:0<n) (h:n*x=0):x=0:=(Int.mul_eq_zero.1 h).resolve_left (by omega)
theorem conv {N M s u:Int} (h0:0≤M) (h1:M≤N) (hN:0<N) (h:N*s=M*u):(0≤s∧s≤u)∨(u≤s∧s≤0):=by
 by_cases hu:0≤u
 ·left
  have h2:0≤N*s:=by rw [h];exact Int.mul_nonneg h0 hu
  have h3:N*s≤N*u:=by rw [h];exact Int.mul_le_mul_of_nonneg_right h1 hu
  exact ⟨Int.le_of_mul_le_mul_left (a:=N) (by simpa using h2) hN,Int.le_of_mul_le_mul_left h3 hN⟩
 ·right
  have h2:N*s≤0:=by rw [h];have:=Int.mul_nonneg h0 (show 0≤-u by omega);rw [Int.mul_neg] at this;omega
  have h3:N*u≤N*s:=by
   rw [h]
   have:=Int.mul_le_mul_of_nonneg_right h1 (show 0≤-u by omega)
   rw [Int.mul_neg,Int.mul_neg] at this
   omega
  exact ⟨Int.le_of_mul_le_mul_left h3 hN,Int.le_of_mul_le_mul_left (a:=N) (by simpa using h2) hN⟩
theorem zk3 (a b x:Pt):crs b a x=-crs a b x:=by unfold crs;grind
theorem zuS {N K x y:Int} (hN:0<N) (hK:0<K) (h:N*y=K*x):sg y=sg x:=by
 rcases Int.lt_trichotomy x 0 with hx|hx|hx
 ·have h1:N*y<0:=by rw [h];exact Int.mul_neg_of_pos_of_neg hK hx
  have h2:y<0:=by
   apply Decidable.byContradiction
   intro hy
   have:=Int.mul_nonneg (Int.le_of_lt hN) (show 0≤y by omega)
   omega
  rw [sg,sg,if_neg (by omega),if_pos h2,if_neg (by omega),if_pos hx]
 ·subst hx
  have:y=0:=zoh hN (by rw [h];simp)
  rw [this]
 ·have h1:0<N*y:=by rw [h];exact Int.mul_pos hK hx
  have h2:0<y:=by
   apply Decidable.byContradiction
   intro hy
   have:=Int.mul_nonneg (Int.le_of_lt hN) (show 0≤-y by omega)
   rw [Int.mul_neg] at this
   omega
  rw [sg,sg,if_pos h2,if_pos hx]
theorem zxS {a b p:Pt}:On a b p↔On b a p:=by
 have key:∀{a b p:Pt},On a b p→On b a p:=by
  rintro a b p ⟨h1,⟨f1,f2,f3⟩,h3,h4,h5⟩
  refine ⟨Ne.symm h1,⟨f2,f1,f3⟩,by unfold crs at *;grind,by unfold Btw at *;omega,by unfold Btw at *;omega⟩
 exact ⟨key,key⟩
theorem zeA {a b p:Pt}:Ins a b p↔Ins b a p:=by
 unfold Ins
 rw [zxS]
 exact ⟨fun ⟨h1,h2,h3⟩=>⟨h1,h3,h2⟩,fun ⟨h1,h2,h3⟩=>⟨h1,h3,h2⟩⟩
end Go.Proofs.YtpkkcjmblocjdaaGreat.Pure
