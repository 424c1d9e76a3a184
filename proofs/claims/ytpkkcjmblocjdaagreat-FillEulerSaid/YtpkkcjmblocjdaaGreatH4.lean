/- What is known; the ends of two segments, counted. -/
import Derived.Test.YtpkkcjmblocjdaaGreatH3
set_option linter.unusedVariables false
set_option linter.unusedSimpArgs false
set_option linter.unusedSectionVars false
namespace Go.Proofs.YtpkkcjmblocjdaaGreat.Pure
open Go.RowKit Go.Proofs.YtpkkcjmblocjdaaGreat.AM
theorem ziQ {a b p:Pt} (h:a≠b) (hf:Fit a∧Fit b∧Fit p):On a b p↔(Ins a b p∨p=a∨p=b):=by
 constructor
 ·intro ho
  by_cases h1:p=a
  ·exact Or.inr (Or.inl h1)
  ·by_cases h2:p=b
   ·exact Or.inr (Or.inr h2)
   ·exact Or.inl ⟨ho,h1,h2⟩
 ·rintro (ho|rfl|rfl)
  ·exact ho.1
  ·refine ⟨h,hf,?_,?_,?_⟩
   ·unfold crs;grind
   ·unfold Btw;omega
   ·unfold Btw;omega
  ·refine ⟨h,hf,?_,?_,?_⟩
   ·unfold crs;grind
   ·unfold Btw;omega
   ·unfold Btw;omega
def ons (a b c d:Pt):Nat:=[decide (On a b c),decide (On a b d),decide (On c d a),decide (On c d b)].count true
theorem zux:∀i1 i2 i3 i4 ac ad bc bd:Bool,(i1=true→ac=false∧bc=false)→(i2=true→ad=false∧bd=false)→(i3=true→ac=false∧ad=false)→(i4=true→bc=false∧bd=false) →
  ¬(ac=true∧ad=true)→¬(ac=true∧bc=true)→¬(ad=true∧bd=true)→¬(bc=true∧bd=true) →
  [i1||(ac||bc),i2||(ad||bd),i3||(ac||ad),i4||(bc||bd)].count true=[i1,i2,i3,i4].count true+2*[ac,ad,bc,bd].count true∧[ac,ad,bc,bd].count true≤2:=by decide
theorem zwh {a b c d:Pt} (h:¬Bad a b c d):ons a b c d=XS a b c d+2*KT a b c d∧KT a b c d≤2:=by
 have hab:a≠b:=fun e=>h (Or.inl e)
 have hcd:c≠d:=fun e=>h (Or.inr (Or.inl e))
 have hf:Fit a∧Fit b∧Fit c∧Fit d:=Decidable.not_not.1 fun e=>h (Or.inr (Or.inr e))
 obtain ⟨fa,fb,fc,fd⟩:=hf
 have e1:decide (On a b c)=(decide (Ins a b c)||(decide (a=c)||decide (b=c))):=by
  rw [Bool.eq_iff_iff];simp only [decide_eq_true_eq,Bool.or_eq_true];rw [ziQ hab ⟨fa,fb,fc⟩];exact ⟨fun h=>by rcases h with h|h|h<;>simp [h],fun h=>by rcases h with h|h|h<;>simp [h]⟩
 have e2:decide (On a b d)=(decide (Ins a b d)||(decide (a=d)||decide (b=d))):=by
  rw [Bool.eq_iff_iff];simp only [decide_eq_true_eq,Bool.or_eq_true];rw [ziQ hab ⟨fa,fb,fd⟩];exact ⟨fun h=>by rcases h with h|h|h<;>simp [h],fun h=>by rcases h with h|h|h<;>simp [h]⟩
 have e3:decide (On c d a)=(decide (Ins c d a)||(decide (a=c)||decide (a=d))):=by
  rw [Bool.eq_iff_iff];simp only [decide_eq_true_eq,Bool.or_eq_true];rw [ziQ hcd ⟨fc,fd,fa⟩]
 have e4:decide (On c d b)=(decide (Ins c d b)||(decide (b=c)||decide (b=d))):=by
  rw [Bool.eq_iff_iff];simp only [decide_eq_true_eq,Bool.or_eq_true];rw [ziQ hcd ⟨fc,fd,fb⟩]
 unfold ons XS KT
 rw [e1,e2,e3,e4]
 apply zux
 ·intro h;have:=of_decide_eq_true h;exact ⟨decide_eq_false fun e=>this.2.1 e.symm,decide_eq_false fun e=>this.2.2 e.symm⟩
 ·intro h;have:=of_decide_eq_true h;exact ⟨decide_eq_false fun e=>this.2.1 e.symm,decide_eq_false fun e=>this.2.2 e.symm⟩
 ·intro h;have:=of_decide_eq_true h;exact ⟨decide_eq_false fun e=>this.2.1 e,decide_eq_false fun e=>this.2.2 e⟩
 ·intro h;have:=of_decide_eq_true h;exact ⟨decide_eq_false fun e=>this.2.1 e,decide_eq_false fun e=>this.2.2 e⟩
 ·simp only [decide_eq_true_eq];rintro ⟨rfl,e⟩;exact hcd e
 ·simp only [decide_eq_true_eq];rintro ⟨rfl,e⟩;exact hab e.symm
 ·simp only [decide_eq_true_eq];rintro ⟨rfl,e⟩;exact hab e.symm
 ·simp only [decide_eq_true_eq];rintro ⟨rfl,e⟩;exact hcd e
theorem zxt {a b c d:Pt} (h:Cro a b c d):ons a b c d=0:=by
 have z:∀{x y:Int},x*y<0→x≠0∧y≠0:=by
  intro x y h
  constructor
  ·rintro rfl;simp at h
  ·rintro rfl;simp at h
 have no:∀{x y p:Pt},ori x y p≠0→decide (On x y p)=false:=by
  intro x y p hn
  rw [decide_eq_false_iff_not]
  intro ho
  exact hn (by rw [ori,if_pos ho.2.1,ho.2.2.1];rfl)
 unfold ons
 rw [no (z h.1).1,no (z h.1).2,no (z h.2).1,no (z h.2).2];rfl
end Go.Proofs.YtpkkcjmblocjdaaGreat.Pure
