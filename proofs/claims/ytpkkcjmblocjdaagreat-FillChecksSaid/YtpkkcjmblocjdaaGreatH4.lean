/- What is known; the ends of two segments, counted. -/
import Derived.Test.YtpkkcjmblocjdaaGreatH3
set_option linter.unusedSimpArgs false
set_option linter.unusedVariables false
namespace Go.Proofs.YtpkkcjmblocjdaaGreat.Pure
open Go.RowKit Go.Proofs.YtpkkcjmblocjdaaGreat.AM

end Go.Proofs.YtpkkcjmblocjdaaGreat.Pure
