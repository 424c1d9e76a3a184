/- What touches a part of a segment, and what the whole. -/
import Derived.Test.YtpkkcjmblocjdaaGreatH5
set_option linter.unusedVariables false
set_option linter.unusedSimpArgs false
set_option linter.unusedSectionVars false
namespace Go.Proofs.YtpkkcjmblocjdaaGreat.Pure
open Go.RowKit Go.Proofs.YtpkkcjmblocjdaaGreat.AM
theorem zvd:∀x y z w:Bool,[x,y,z,w].count true=0↔¬(x=true∨y=true∨z=true∨w=true):=by decide
theorem zth {a b c d:Pt}:KT a b c d=0↔¬(a=c∨a=d∨b=c∨b=d):=by
 unfold KT
 rw [zvd]
 simp only [decide_eq_true_eq]
theorem zrL (a b x:Pt):ori b a x=-ori a b x:=by
 unfold ori
 rw [zk3 a b x]
 by_cases h:Fit a∧Fit b∧Fit x
 ·rw [if_pos h,if_pos ⟨h.2.1,h.1,h.2.2⟩]
  unfold sg
  (repeat' split)<;>omega
 ·rw [if_neg h,if_neg (fun x=>h ⟨x.2.1,x.1,x.2.2⟩)];rfl
theorem zt7 {a b c d:Pt}:Cro b a c d↔Cro a b c d:=by
 unfold Cro
 rw [zrL a b c,zrL a b d,Int.neg_mul_neg,Int.mul_comm (ori c d b)]
theorem zub {a b c d:Pt}:how b a c d=how a b c d:=by
 have e1:KT b a c d=KT a b c d:=by
  unfold KT
  generalize decide (a=c)=x;generalize decide (a=d)=y;generalize decide (b=c)=z;generalize decide (b=d)=w
  cases x<;>cases y<;>cases z<;>cases w<;>rfl
 have e2:XS b a c d=XS a b c d:=by
  unfold XS
  simp only [zeA (a:=b) (b:=a)]
  generalize decide (Ins a b c)=x;generalize decide (Ins a b d)=y;generalize decide (Ins c d a)=z;generalize decide (Ins c d b)=w
  cases x<;>cases y<;>cases z<;>cases w<;>rfl
 unfold how
 rw [e1,e2]
 simp only [zt7]
theorem zsn {x y:Int}:sg x*sg y<0↔(0<x∧y<0)∨(x<0∧0<y):=by
 unfold sg
 (repeat' split)<;>omega
section
variable {a b c d p:Pt} (hp:Ins a b p) (hcd:c≠d) (fc:Fit c) (fd:Fit d)
include hp fc fd
end
end Go.Proofs.YtpkkcjmblocjdaaGreat.Pure
