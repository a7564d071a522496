/- The walk of MachineRuns. No condition. -/
import Derived.Test.YtomcmfbpmkklmaaRj
import Derived.Test.YtomcmfbpmkklmaaZq
import Derived.Test.YtomcmfbpmkklmaaZf
import Derived.Test.YtomcmfbpmkklmaaZi
import Derived.Test.YtomcmfbpmkklmaaZm
namespace Go.Proofs.Ytomcmfbpmkklmaa
set_option linter.unusedSimpArgs false
set_option linter.unusedVariables false
set_option maxRecDepth 20000
open Go Go.Proofs Go.Vc
theorem start_right {u : Un} (hu : OkU u) (hU : unitB u = true) {m r : Int} (hm : 1 ≤ m ∧ m ≤ 3) (hr : 1 ≤ r ∧ r ≤ 4) : Rt u (startC u) m r := by
 have hU' := hU
 simp only [unitB, headB, Bool.and_eq_true, decide_eq_true_eq, List.all_eq_true] at hU'
 obtain ⟨⟨⟨⟨⟨⟨⟨a1, a2⟩, a3⟩, a4⟩, a5⟩, a6⟩, a7⟩, a8⟩ := hU'
 have hnil : rightR m r u.md u.init.length [] = true := rightR_iff.2 ⟨by simp only [gateR, Bool.and_eq_true, decide_eq_true_eq]; omega, { el := fun e he => (by cases he), p3 := fun _ => ⟨trivial, fun l => (by show ((0 : Nat) : Int) ≤ r; omega)⟩, p2 := fun _ => (by show ((0 : Nat) : Int) ≤ r; omega), p1 := fun _ => rfl }⟩
 refine rt_of hu (rightC_iff.2 ⟨hU, ⟨by simp [startC], by simp [startC], by simp [startC], rfl⟩, a3, fun t ht => ?_, hnil⟩)
 obtain ⟨n, hn⟩ : ∃ n, u.regs[t]? = some n := ⟨_, List.getElem?_eq_getElem ht⟩
 have hn0 := unitB_regs hU hn
 have h8 := a8 t (List.mem_range.2 ht)
 simp only [rowB, Bool.and_eq_true, decide_eq_true_eq] at h8
 refine thrB_iff.2 ⟨?_, ⟨?_, ?_⟩, ?_⟩
 ·have : (startC u).pc.getD t 0 = 0 := by simp [startC, List.getD_eq_getElem?_getD, ht]
  rw [this]
  omega
 ·simp [startC, List.getD_eq_getElem?_getD, hn]
  omega
 ·have : (startC u).regs.getD t [] = List.replicate n.toNat 0 := by simp [startC, List.getD_eq_getElem?_getD, hn]
  rw [this, allB, List.all_eq_true]
  intro x hx
  rw [List.eq_of_mem_replicate hx]
  exact inB_spec.2 ⟨by omega, by omega⟩
 ·have : (startC u).bufs.getD t [] = [] := by simp [startC, List.getD_eq_getElem?_getD, ht]
  rw [this]
  exact hnil
theorem Rt.actM {u : Un} {c : Cf} {m r : Int} (h : Rt u c m r) (a : Int) : Rt u (actM u c m r a) m r := by
 unfold Go.Proofs.Ytomcmfbpmkklmaa.actM
 split
 ·rename_i ag _
  cases ag with
  | th t => exact h.act (t : Nat)
  | fl t l => exact h.flush (t : Nat) l
 ·exact h
section
variable {u : Un} {c : Cf} {m r : Int}
structure FlN (u : Un) (i : Nat) : Prop where
 sub : IntKind.i64.wrap ((i : Int) - (u.regs.length : Int)) = ((i - u.regs.length : Nat) : Int)
 quo : IntKind.i64.wrap (((i - u.regs.length : Nat) : Int).tdiv (u.init.length : Int)) = (((i - u.regs.length) / u.init.length : Nat) : Int)
 rem : (((i - u.regs.length : Nat) : Int).tmod (u.init.length : Int)) = (((i - u.regs.length) % u.init.length : Nat) : Int)
 nz : (u.init.length : Int) ≠ 0
end
end Go.Proofs.Ytomcmfbpmkklmaa
