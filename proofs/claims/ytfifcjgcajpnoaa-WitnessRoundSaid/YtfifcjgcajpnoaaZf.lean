/- Contracts: where a thread leads, as the reference says. No condition. -/
import Derived.Test.YtfifcjgcajpnoaaZe
import Derived.Test.YtfifcjgcajpnoaaZm
namespace Go.Proofs.Ytfifcjgcajpnoaa
set_option linter.unusedSimpArgs false
set_option linter.unusedVariables false
set_option maxRecDepth 20000
open Go Go.Proofs Go.Vc

section
variable {u : Un} {c : Cf} {m : Int} {i : Nat} {x : Ins} {row : List Int} {b : List En}
end

end Go.Proofs.Ytfifcjgcajpnoaa
/- Contracts: where a thread leads, as the reference says. No condition. -/
namespace Go.Proofs.Ytfifcjgcajpnoaa
set_option linter.unusedSimpArgs false
set_option linter.unusedVariables false
set_option maxRecDepth 20000
open Go Go.Proofs Go.Vc

end Go.Proofs.Ytfifcjgcajpnoaa
/- Contracts: where a thread leads, as the reference says. No condition. -/
namespace Go.Proofs.Ytfifcjgcajpnoaa
set_option linter.unusedSimpArgs false
set_option linter.unusedVariables false
set_option maxRecDepth 20000
open Go Go.Proofs Go.Vc

end Go.Proofs.Ytfifcjgcajpnoaa
