/- Contracts: whether a buffer can be. No condition. -/
import Derived.Test.YtlnmljmeahknaaaGreatWe
namespace Go.Proofs.YtlnmljmeahknaaaGreat
set_option linter.unusedSimpArgs false
set_option linter.unusedVariables false
set_option maxRecDepth 20000
open Go Go.Proofs Go.Vc

def badE (md lc : Int) (x : En) : Bool := decide (x.1 < 0) || decide (x.1 ≥ lc) || decide (x.2 < 0) || decide (x.2 ≥ md)
def badP (m r : Int) (b : List En) (i : Nat) (x : En) : Bool := decide (m = 3) && ((decide (i > 0) && decide (((b[i - 1]?).getD (0, 0)).1 > x.1)) || decide (((cntF x.1 b : Nat) : Int) > r))
def badAt (m r md lc : Int) (b : List En) (i : Nat) : Bool := badE md lc ((b[i]?).getD (0, 0)) || badP m r b i ((b[i]?).getD (0, 0))
end Go.Proofs.YtlnmljmeahknaaaGreat
