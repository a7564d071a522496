/- Contracts: whether a unit can be. No condition. -/
import Derived.Test.YtomcmfbpmkklmaaXa
import Derived.Test.YtomcmfbpmkklmaaYl
import Derived.Test.YtomcmfbpmkklmaaXe
namespace Go.Proofs.Ytomcmfbpmkklmaa
set_option linter.unusedSimpArgs false
set_option linter.unusedVariables false
set_option maxRecDepth 20000
open Go Go.Proofs Go.Vc
structure OkU (u : Un) : Prop where
 ini : u.init.length ≤ 1000
 reg : u.regs.length ≤ 1000
 cod : u.code.length ≤ 1000
 row : ∀ r, r ∈ u.code → r.length ≤ 100000
 ins : ∀ r, r ∈ u.code → ∀ x, x ∈ r → x.e.length ≤ 1000 ∧ x.f.length ≤ 1000
instance : Inhabited Ins := ⟨⟨0, 0, 0, [], [], false, 0⟩⟩
def rowB (regs locs : Int) (r : List Ins) : Bool :=
 (decide (0 ≤ regs) && decide (regs ≤ 6) && decide (1 ≤ r.length) && decide (r.length ≤ 1000) && doneB (r.getD (r.length - 1) default)) && ((List.range (r.length - 1)).all fun i => oneB (r.getD i default) regs locs r.length)
def headB (u : Un) : Bool := decide (2 ≤ u.md) && decide (u.md ≤ 16) && allB u.init u.md && decide (u.init.length ≤ 6) && decide (1 ≤ u.regs.length) && decide (u.regs.length ≤ 4) && decide (u.code.length = u.regs.length)
def unitB (u : Un) : Bool := headB u && ((List.range u.regs.length).all fun t => rowB (u.regs.getD t 0) u.init.length (u.code.getD t []))
theorem range_all {n : Nat} {p : Nat → Bool} (h : ∀ i, i < n → p i = true) : (List.range n).all p = true := by
 rw [List.all_eq_true]
 intro x hx
 exact h x (List.mem_range.1 hx)
theorem range_not {n i : Nat} {p : Nat → Bool} (hi : i < n) (h : p i = false) : (List.range n).all p = false := by
 rw [List.all_eq_false]
 exact ⟨i, List.mem_range.2 hi, by simp [h]⟩
end Go.Proofs.Ytomcmfbpmkklmaa
