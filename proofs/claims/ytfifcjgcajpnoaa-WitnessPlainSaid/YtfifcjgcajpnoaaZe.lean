/- Contracts: what a thread can, as the reference says. No condition. -/
import Derived.Test.YtfifcjgcajpnoaaYh
import Derived.Test.YtfifcjgcajpnoaaK2
namespace Go.Proofs.Ytfifcjgcajpnoaa
set_option linter.unusedSimpArgs false
set_option linter.unusedVariables false
set_option maxRecDepth 20000
open Go Go.Proofs Go.Vc

end Go.Proofs.Ytfifcjgcajpnoaa
