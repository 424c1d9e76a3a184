/- Between, by the two ways' product. -/
import Derived.Test.YtpkkcjmblocjdaaGreatH17
import Derived.Test.YtpkkcjmblocjdaaGreatH5
set_option linter.unusedSimpArgs false
set_option linter.unusedVariables false
namespace Go.Proofs.YtpkkcjmblocjdaaGreat.Pure
open Go.RowKit Go.Proofs.YtpkkcjmblocjdaaGreat.AM

end Go.Proofs.YtpkkcjmblocjdaaGreat.Pure
