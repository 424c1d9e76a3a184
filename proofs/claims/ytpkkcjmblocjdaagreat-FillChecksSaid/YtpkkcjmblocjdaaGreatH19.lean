/- The reference's answer what two segments have in common. -/
import Derived.Test.YtpkkcjmblocjdaaGreatH21
import Derived.Test.YtpkkcjmblocjdaaGreatH6
set_option linter.unusedVariables false
set_option linter.unusedSimpArgs false
namespace Go.Proofs.YtpkkcjmblocjdaaGreat.Pure
open Go.RowKit Go.Proofs.YtpkkcjmblocjdaaGreat.AM
def inn (a b c d : Pt) : Nat := [decide (On a b c), decide (On a b d), decide (On c d a) && !decide (a = c) && !decide (a = d), decide (On c d b) && !decide (b = c) && !decide (b = d)].count true
end Go.Proofs.YtpkkcjmblocjdaaGreat.Pure
