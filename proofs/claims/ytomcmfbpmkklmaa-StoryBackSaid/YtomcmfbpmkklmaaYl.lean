/- What an instruction has. No condition. -/
import Derived.Test.YtomcmfbpmkklmaaXg
import Derived.Test.YtomcmfbpmkklmaaXk
namespace Go.Proofs.Ytomcmfbpmkklmaa
set_option linter.unusedSimpArgs false
set_option linter.unusedVariables false
set_option maxRecDepth 20000
open Go Go.Proofs Go.Vc
structure Nd where
 r : Bool
 l : Bool
 e : Bool
 f : Bool
 n : Bool
 t : Bool
def ndF (op : Int) : Option Nd :=
 if op = 2 then some ⟨true, false, true, false, false, false⟩ else
 if op = 3 then some ⟨true, true, false, false, false, false⟩ else
 if op = 4 then some ⟨false, true, true, false, false, false⟩ else
 if op = 5 then some ⟨true, true, true, true, false, false⟩ else
 if op = 6 then some ⟨true, true, true, false, false, false⟩ else
 if op = 7 then some ⟨true, true, true, false, false, false⟩ else
 if op = 8 then some ⟨false, false, false, false, false, false⟩ else
 if op = 9 then some ⟨false, true, true, false, true, false⟩ else
 if op = 20 then some ⟨false, false, false, false, false, true⟩ else
 if op = 21 then some ⟨false, false, true, false, false, true⟩ else
 none
def placeB (has : Bool) (n m : Int) : Bool := match has with | true => inB n m | false => n == 0
def codeN (has : Bool) (l : List Opc) (regs : Int) : Bool := match has with | true => codeB l [] regs 0 | false => decide (l.length = 0)
def oneB (x : Ins) (regs locs many : Int) : Bool := match ndF x.op with
 | none => false
 | some d => placeB d.r x.reg regs && placeB d.l x.loc locs && placeB d.t x.to many && codeN d.e x.e regs && codeN d.f x.f regs && (d.n || !x.ne)
end Go.Proofs.Ytomcmfbpmkklmaa
