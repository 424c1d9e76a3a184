/- Numbers of digits. -/
import Derived.Test.YtiejhpighhjgiaaB10
set_option linter.unusedSimpArgs false
set_option linter.unusedVariables false
namespace Go.Proofs.Ytiejhpighhjgiaa.Pure
open Go.RowKit Go.Proofs.Ytiejhpighhjgiaa.AM
def sg (x : Int) : Int := if x > 0 then 1 else if x < 0 then -1 else 0
theorem sg_zero {x : Int} : sg x = 0 ↔ x = 0 := by unfold sg; (repeat' split) <;> omega
/-- Twice the area of three places, with its sign. -/
def crs (a b c : Pt) : Int := (b.1 - a.1) * (c.2 - a.2) - (b.2 - a.2) * (c.1 - a.1)
def ori (a b c : Pt) : Int := if Fit a ∧ Fit b ∧ Fit c then sg (crs a b c) else 0
end Go.Proofs.Ytiejhpighhjgiaa.Pure
