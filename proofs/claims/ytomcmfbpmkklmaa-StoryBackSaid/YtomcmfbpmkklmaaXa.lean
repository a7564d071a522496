/- Units and configurations as data; contracts of the reference's store. No condition. -/
import Derived.Test.YtomcmfbpmkklmaaWd
namespace Go.Proofs.Ytomcmfbpmkklmaa
set_option linter.unusedSimpArgs false
set_option linter.unusedVariables false
set_option maxRecDepth 20000
open Go Go.Proofs Go.Vc
attribute [local irreducible] retQ VCg VCw VCx
def inB (n m : Int) : Bool := decide (n ≥ 0) && decide (n < m)
def allB (l : List Int) (m : Int) : Bool := l.all fun n => inB n m
def gateR (m r md : Int) : Bool := decide (1 ≤ m) && decide (m ≤ 3) && (decide (1 ≤ r) && decide (r ≤ 4) && decide (2 ≤ md) && decide (md ≤ 16))
def tailR (m r : Int) (b : List En) : Bool := (decide (m ≠ 1) && (decide (m = 3) || decide ((b.length : Int) ≤ r))) || decide ((b.length : Int) = 0)
def rightR (m r md lc : Int) (b : List En) : Bool := gateR m r md && ((List.range b.length).all fun i => !badAt m r md lc b i) && tailR m r b
end Go.Proofs.Ytomcmfbpmkklmaa
