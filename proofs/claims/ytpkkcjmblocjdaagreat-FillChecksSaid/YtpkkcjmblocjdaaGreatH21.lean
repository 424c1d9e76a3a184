/- The reference's answer whether a place lies on a segment. -/
import Derived.Test.YtpkkcjmblocjdaaGreatH18
set_option linter.unusedVariables false
set_option linter.unusedSimpArgs false
namespace Go.Proofs.YtpkkcjmblocjdaaGreat.Pure
open Go.RowKit Go.Proofs.YtpkkcjmblocjdaaGreat.AM
end Go.Proofs.YtpkkcjmblocjdaaGreat.Pure
