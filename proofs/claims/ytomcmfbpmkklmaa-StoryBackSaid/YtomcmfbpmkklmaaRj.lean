/- Contracts: all that can act; a name's agent. No condition. -/
import Derived.Test.YtomcmfbpmkklmaaRg
import Derived.Test.YtomcmfbpmkklmaaYq
namespace Go.Proofs.Ytomcmfbpmkklmaa
set_option linter.unusedSimpArgs false
set_option linter.unusedVariables false
set_option maxRecDepth 20000
open Go Go.Proofs Go.Vc
section
variable {u : Un} {c : Cf} {m r : Int}
end
end Go.Proofs.Ytomcmfbpmkklmaa
