/- Units and configurations as data; contracts of the reference's store. No condition. -/
import Derived.Test.YtfifcjgcajpnoaaWj
namespace Go.Proofs.Ytfifcjgcajpnoaa
set_option linter.unusedSimpArgs false
set_option linter.unusedVariables false
set_option maxRecDepth 20000
open Go Go.Proofs Go.Vc
attribute [local irreducible] retQ VCg VCw

def inB (n m : Int) : Bool := decide (n ≥ 0) && decide (n < m)
def allB (l : List Int) (m : Int) : Bool := l.all fun n => inB n m
end Go.Proofs.Ytfifcjgcajpnoaa
