/- Where a point lies: the reference's functions come to the same. -/
import Derived.Test.YtpkkcjmblocjdaaGreatW1
set_option linter.unusedVariables false
set_option linter.unusedSimpArgs false
namespace Go.Proofs.YtpkkcjmblocjdaaGreat.Pure
open Go.RowKit Go.Proofs.YtpkkcjmblocjdaaGreat.AM
end Go.Proofs.YtpkkcjmblocjdaaGreat.Pure
