/- Contracts: whether a circle can be gone round, as the reference says. No condition. -/
import Derived.Test.YtfifcjgcajpnoaaSj
import Derived.Test.YtfifcjgcajpnoaaTa
namespace Go.Proofs.Ytfifcjgcajpnoaa
set_option linter.unusedSimpArgs false
set_option linter.unusedVariables false
set_option maxRecDepth 20000
open Go Go.Proofs Go.Vc

end Go.Proofs.Ytfifcjgcajpnoaa
/- Contracts: what the reference sees on a circle. No condition. -/
namespace Go.Proofs.Ytfifcjgcajpnoaa
set_option linter.unusedSimpArgs false
set_option linter.unusedVariables false
set_option maxRecDepth 20000
open Go Go.Proofs Go.Vc

/-! ### A path, and then a part of a circle -/
theorem goF_app {u : Un} {m r : Int} : ∀ (p q : List Int) (c : Cf) (k : Nat), (goF u m r c p k).2.2 = 0 → goF u m r c (p ++ q) k = goF u m r (goF u m r c p k).1 q (k + p.length)
  | [], q, c, k, h => rfl
  | a :: p, q, c, k, h => by
    have e : ∀ q, goF u m r c (a :: q) k = match enM u c m r a with | true => goF u m r (actM u c m r a) q (k + 1) | false => (c, k, 16) := fun _ => rfl
    rw [e] at h
    rw [List.cons_append, e, e, show k + (a :: p).length = k + 1 + p.length by rw [List.length_cons]; omega]
    cases he : enM u c m r a with
    | true => rw [he] at h; exact goF_app p q _ _ h
    | false => rw [he] at h; cases h
theorem goF_bad {u : Un} {m r : Int} : ∀ (p q : List Int) (c : Cf) (k : Nat), (goF u m r c p k).2.2 ≠ 0 → (goF u m r c (p ++ q) k).2.2 ≠ 0
  | [], q, c, k, h => absurd rfl h
  | a :: p, q, c, k, h => by
    unfold goF at h
    rw [List.cons_append]
    unfold goF
    cases he : enM u c m r a with
    | true =>
      rw [he] at h
      exact goF_bad p q _ _ h
    | false => exact fun h => by cases h
theorem goF_cy {u : Un} {m r : Int} : ∀ (q : List Int) (c : Cf) (k : Nat), ((goF u m r c q k).2.2 == 0) = cyOk u m r c q q.length ∧ (cyOk u m r c q q.length = true → (goF u m r c q k).1 = cyC u m r c q q.length)
  | [], c, k => ⟨rfl, fun _ => rfl⟩
  | a :: q, c, k => by
    have hC : ∀ i, cyC u m r c (a :: q) (i + 1) = cyC u m r (actM u c m r a) q i := fun i => rfl
    have hO : cyOk u m r c (a :: q) (a :: q).length = (enM u c m r a && cyOk u m r (actM u c m r a) q q.length) := by
      simp only [cyOk, List.length_cons, List.range_succ_eq_map, List.all_cons, List.all_map, cyC_zero, List.getD_cons_zero]
      rfl
    rw [hO, List.length_cons, hC]
    unfold goF
    cases he : enM u c m r a with
    | true => rw [Bool.true_and]; exact goF_cy q _ _
    | false => exact ⟨rfl, fun h => by cases h⟩
theorem repF_app (u : Un) (m r : Int) (p q : List Int) : ((repF u m r (p ++ q)).2.2 == 0) = (((repF u m r p).2.2 == 0) && cyOk u m r (repF u m r p).1 q q.length) ∧
    ((((repF u m r p).2.2 == 0) && cyOk u m r (repF u m r p).1 q q.length) = true → (repF u m r (p ++ q)).1 = cyC u m r (repF u m r p).1 q q.length) := by
  cases hU : unitB u with
  | false => simp [repF, hU]
  | true =>
    cases hM : okMR m r with
    | false => simp [repF, hU, hM]
    | true =>
      have e1 : ∀ x, repF u m r x = goF u m r (startC u) x 0 := fun x => by simp [repF, hU, hM]
      rw [e1, e1]
      cases h : (goF u m r (startC u) p 0).2.2 == 0 with
      | true =>
        rw [goF_app p q _ _ (by simpa using h), Bool.true_and]
        exact goF_cy q _ _
      | false =>
        rw [Bool.false_and]
        refine ⟨?_, fun h => by cases h⟩
        rw [beq_eq_false_iff_ne]
        exact goF_bad p q _ _ (by simpa using h)
end Go.Proofs.Ytfifcjgcajpnoaa
