/- The walk of MachineNames. No condition. -/
import Derived.Test.YtfifcjgcajpnoaaRj
import Derived.Test.YtfifcjgcajpnoaaZq
import Derived.Test.YtfifcjgcajpnoaaZc
import Derived.Test.YtfifcjgcajpnoaaZf
import Derived.Test.YtfifcjgcajpnoaaZi
import Derived.Test.YtfifcjgcajpnoaaZm
namespace Go.Proofs.Ytfifcjgcajpnoaa
set_option linter.unusedSimpArgs false
set_option linter.unusedVariables false
set_option maxRecDepth 20000
open Go Go.Proofs Go.Vc

/-- What acts at a place. -/
def agF (u : Un) (m : Int) (i : Nat) : Ag := if i < u.regs.length then .th i else if m = 2 then .fl (i - u.regs.length) (-1) else .fl ((i - u.regs.length) / u.init.length) (((i - u.regs.length) % u.init.length : Nat) : Int)
theorem ag_at {u : Un} {m : Int} {i : Nat} (h : i < (agsF u m).length) : (agsF u m)[i]? = some (agF u m i) ∧ (u.regs.length ≤ i → m = 2 ∨ (m = 3 ∧ i - u.regs.length < u.regs.length * u.init.length)) ∧ unitB u = true := by
  have hUm : unitB u = true ∧ 1 ≤ m ∧ m ≤ 3 := by
    by_cases h' : unitB u = true ∧ 1 ≤ m ∧ m ≤ 3
    · exact h'
    · rw [agsF_no h'] at h; simp at h
  obtain ⟨hU, hm1, hm3⟩ := hUm
  unfold agF
  rcases Nat.lt_or_ge i u.regs.length with h3 | h3
  · refine ⟨?_, fun h => by omega, hU⟩
    rw [if_pos h3, agsF, if_pos ⟨hU, hm1, hm3⟩]
    exact ths_at h3 _
  rw [if_neg (by omega)]
  rcases (show m = 1 ∨ m = 2 ∨ m = 3 by omega) with rfl | rfl | rfl
  · rw [count_1 hU] at h; omega
  · refine ⟨?_, fun _ => .inl rfl, hU⟩
    rw [count_2 hU] at h
    rw [if_pos rfl, agsF_2 hU, ths_past h3, List.getElem?_map, List.getElem?_range (by omega)]
    rfl
  · rw [count_3 hU] at h
    have hc : i - u.regs.length < u.regs.length * u.init.length := by omega
    have hL : 0 < u.init.length := by
      rcases Nat.eq_zero_or_pos u.init.length with h | h
      · rw [h, Nat.mul_zero] at hc; omega
      · exact h
    refine ⟨?_, fun _ => .inr ⟨rfl, hc⟩, hU⟩
    rw [if_neg (by decide), agsF_3 hU, ths_past h3]
    exact grid_at (fun t l => Ag.fl t (l : Int)) hL _ _ hc
end Go.Proofs.Ytfifcjgcajpnoaa
/- The walk of MachineRuns. No condition. -/
namespace Go.Proofs.Ytfifcjgcajpnoaa
set_option linter.unusedSimpArgs false
set_option linter.unusedVariables false
set_option maxRecDepth 20000
open Go Go.Proofs Go.Vc

/-- Where a program begins can be. -/
theorem start_right {u : Un} (hu : OkU u) (hU : unitB u = true) {m r : Int} (hm : 1 ≤ m ∧ m ≤ 3) (hr : 1 ≤ r ∧ r ≤ 4) : Rt u (startC u) m r := by
  have hU' := hU
  simp only [unitB, headB, Bool.and_eq_true, decide_eq_true_eq, List.all_eq_true] at hU'
  obtain ⟨⟨⟨⟨⟨⟨⟨a1, a2⟩, a3⟩, a4⟩, a5⟩, a6⟩, a7⟩, a8⟩ := hU'
  have hnil : rightR m r u.md u.init.length [] = true := rightR_iff.2 ⟨by simp only [gateR, Bool.and_eq_true, decide_eq_true_eq]; omega, { el := fun e he => (by cases he), p3 := fun _ => ⟨trivial, fun l => (by show ((0 : Nat) : Int) ≤ r; omega)⟩, p2 := fun _ => (by show ((0 : Nat) : Int) ≤ r; omega), p1 := fun _ => rfl }⟩
  refine rt_of hu (rightC_iff.2 ⟨hU, ⟨by simp [startC], by simp [startC], by simp [startC], rfl⟩, a3, fun t ht => ?_, hnil⟩)
  obtain ⟨n, hn⟩ : ∃ n, u.regs[t]? = some n := ⟨_, List.getElem?_eq_getElem ht⟩
  have hn0 := unitB_regs hU hn
  have h8 := a8 t (List.mem_range.2 ht)
  simp only [rowB, Bool.and_eq_true, decide_eq_true_eq] at h8
  refine thrB_iff.2 ⟨?_, ⟨?_, ?_⟩, ?_⟩
  · have : (startC u).pc.getD t 0 = 0 := by simp [startC, List.getD_eq_getElem?_getD, ht]
    rw [this]
    omega
  · simp [startC, List.getD_eq_getElem?_getD, hn]
    omega
  · have : (startC u).regs.getD t [] = List.replicate n.toNat 0 := by simp [startC, List.getD_eq_getElem?_getD, hn]
    rw [this, allB, List.all_eq_true]
    intro x hx
    rw [List.eq_of_mem_replicate hx]
    exact inB_spec.2 ⟨by omega, by omega⟩
  · have : (startC u).bufs.getD t [] = [] := by simp [startC, List.getD_eq_getElem?_getD, ht]
    rw [this]
    exact hnil
theorem Rt.actM {u : Un} {c : Cf} {m r : Int} (h : Rt u c m r) (a : Int) : Rt u (actM u c m r a) m r := by
  unfold Go.Proofs.Ytfifcjgcajpnoaa.actM
  split
  · rename_i ag _
    cases ag with
    | th t => exact h.act (t : Nat)
    | fl t l => exact h.flush (t : Nat) l
  · exact h
end Go.Proofs.Ytfifcjgcajpnoaa
/- Units, cases and bytes as arguments. No condition. -/
namespace Go.Proofs.Ytfifcjgcajpnoaa
set_option linter.unusedSimpArgs false
set_option linter.unusedVariables false
open Go Go.Proofs Go.Vc Go.ChangeShapes Go.WideShapes Go.ChangeAt Go.RowKit Go.Joins

end Go.Proofs.Ytfifcjgcajpnoaa
/- Where a thread leads, of any kind; a thread that is none. No condition. -/
namespace Go.Proofs.Ytfifcjgcajpnoaa
set_option linter.unusedSimpArgs false
set_option linter.unusedVariables false
set_option maxRecDepth 20000
open Go Go.Proofs Go.Vc

end Go.Proofs.Ytfifcjgcajpnoaa
/- Contracts: what an agent can and does, as the reference says. No condition. -/
namespace Go.Proofs.Ytfifcjgcajpnoaa
set_option linter.unusedSimpArgs false
set_option linter.unusedVariables false
set_option maxRecDepth 20000
open Go Go.Proofs Go.Vc

section
variable {u : Un} {c : Cf} {m r : Int}
theorem oneF_at {k : Nat} (h : k < (agsF u m).length) : oneF u m (k : Nat) = some (agF u m k) := by
  have := (ag_at h).1
  simp [oneF, this]
/-- What is so of a flush's number. -/
structure FlN (u : Un) (i : Nat) : Prop where
  sub : IntKind.i64.wrap ((i : Int) - (u.regs.length : Int)) = ((i - u.regs.length : Nat) : Int)
  quo : IntKind.i64.wrap (((i - u.regs.length : Nat) : Int).tdiv (u.init.length : Int)) = (((i - u.regs.length) / u.init.length : Nat) : Int)
  rem : (((i - u.regs.length : Nat) : Int).tmod (u.init.length : Int)) = (((i - u.regs.length) % u.init.length : Nat) : Int)
  nz : (u.init.length : Int) ≠ 0
theorem enM_at {k : Nat} (h : k < (agsF u m).length) : enM u c m r (k : Nat) = canA u c m r (agF u m k) := by simp [enM, oneF_at h]
end
end Go.Proofs.Ytfifcjgcajpnoaa
