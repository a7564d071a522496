/- Contracts: where a thread leads, as the reference says. No condition. -/
import Derived.Test.YtomcmfbpmkklmaaZe
import Derived.Test.YtomcmfbpmkklmaaZm
namespace Go.Proofs.Ytomcmfbpmkklmaa
set_option linter.unusedSimpArgs false
set_option linter.unusedVariables false
set_option maxRecDepth 20000
open Go Go.Proofs Go.Vc
section
variable {u : Un} {c : Cf} {m : Int} {i : Nat} {x : Ins} {row : List Int} {b : List En}
end
end Go.Proofs.Ytomcmfbpmkklmaa
