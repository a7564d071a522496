/- Contracts: the reference's edges. No condition. -/
import Derived.Test.YtomcmfbpmkklmaaDb
import Derived.Test.YtomcmfbpmkklmaaWb
namespace Go.Proofs.Ytomcmfbpmkklmaa
set_option linter.unusedSimpArgs false
set_option linter.unusedVariables false
set_option maxRecDepth 20000
open Go Go.Proofs Go.Vc
attribute [local irreducible] retQ VCg VCw VCx
end Go.Proofs.Ytomcmfbpmkklmaa
