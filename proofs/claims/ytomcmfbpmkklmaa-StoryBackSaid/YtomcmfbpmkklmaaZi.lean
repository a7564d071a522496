/- Contracts: where a thread leads, as the reference says. No condition. -/
import Derived.Test.YtomcmfbpmkklmaaZf
namespace Go.Proofs.Ytomcmfbpmkklmaa
set_option linter.unusedSimpArgs false
set_option linter.unusedVariables false
set_option maxRecDepth 20000
open Go Go.Proofs Go.Vc
end Go.Proofs.Ytomcmfbpmkklmaa
