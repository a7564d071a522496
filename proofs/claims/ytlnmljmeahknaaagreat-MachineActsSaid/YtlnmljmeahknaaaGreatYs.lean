/- The known calls of chapter 10. No condition. -/
import Derived.Test.YtlnmljmeahknaaaGreatYn
import Derived.Test.YtlnmljmeahknaaaGreatYp
import Derived.Test.YtlnmljmeahknaaaGreatYr
namespace Go.Proofs.YtlnmljmeahknaaaGreat
set_option linter.unusedSimpArgs false
set_option linter.unusedVariables false
set_option maxRecDepth 20000
open Go Go.Proofs Go.Vc

def actC (u : Un) (c : Cf) (m : Int) (i : Nat) (x : Ins) (row : List Int) (b : List En) (p : Nat) (en : Bool) : Cf := match en with
  | true => afterX u (setP c i ((p + 1 : Nat) : Int)) m i x row b
  | false => c
end Go.Proofs.YtlnmljmeahknaaaGreat
