/- The reference's numbers: out of any word. -/
import Derived.Test.YtpkkcjmblocjdaaGreatH16
set_option linter.unusedSimpArgs false
set_option linter.unusedVariables false
namespace Go.Proofs.YtpkkcjmblocjdaaGreat.Pure
open Go.RowKit Go.Proofs.YtpkkcjmblocjdaaGreat.AM

end Go.Proofs.YtpkkcjmblocjdaaGreat.Pure
