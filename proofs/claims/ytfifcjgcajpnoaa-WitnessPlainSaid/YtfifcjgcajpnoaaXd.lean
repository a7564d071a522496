/- Contracts: whether a buffer can be, as the reference says. No condition. -/
import Derived.Test.YtfifcjgcajpnoaaXa
namespace Go.Proofs.Ytfifcjgcajpnoaa
set_option linter.unusedSimpArgs false
set_option linter.unusedVariables false
set_option maxRecDepth 20000
open Go Go.Proofs Go.Vc

def gateR (m r md : Int) : Bool := decide (1 ≤ m) && decide (m ≤ 3) && (decide (1 ≤ r) && decide (r ≤ 4) && decide (2 ≤ md) && decide (md ≤ 16))
def tailR (m r : Int) (b : List En) : Bool := (decide (m ≠ 1) && (decide (m = 3) || decide ((b.length : Int) ≤ r))) || decide ((b.length : Int) = 0)
def rightR (m r md lc : Int) (b : List En) : Bool := gateR m r md && ((List.range b.length).all fun i => !badAt m r md lc b i) && tailR m r b
end Go.Proofs.Ytfifcjgcajpnoaa
