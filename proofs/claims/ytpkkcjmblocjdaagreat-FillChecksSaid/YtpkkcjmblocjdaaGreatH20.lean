/- The program's and the reference's answers are alike. -/
import Derived.Test.YtpkkcjmblocjdaaGreatH19
set_option linter.unusedVariables false
set_option linter.unusedSimpArgs false
namespace Go.Proofs.YtpkkcjmblocjdaaGreat.Pure
open Go.RowKit Go.Proofs.YtpkkcjmblocjdaaGreat.AM
theorem crs_rot (a b c : Pt) : crs b c a = crs a b c := by unfold crs; grind
section
variable {a b c d : Pt} (hb : ¬ Bad a b c d)
include hb
theorem nb : a ≠ b ∧ c ≠ d ∧ Fit a ∧ Fit b ∧ Fit c ∧ Fit d :=
  ⟨fun e => hb (Or.inl e), fun e => hb (Or.inr (Or.inl e)), Decidable.not_not.1 fun e => hb (Or.inr (Or.inr e))⟩
end
end Go.Proofs.YtpkkcjmblocjdaaGreat.Pure
