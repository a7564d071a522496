/- The laws WitnessTells and WitnessEnds. No condition. -/
import Derived.Test.YtfifcjgcajpnoaaSo
import Derived.Test.YtfifcjgcajpnoaaSm
import Derived.Test.YtfifcjgcajpnoaaRt
namespace Go.Proofs.Ytfifcjgcajpnoaa
set_option linter.unusedSimpArgs false
set_option linter.unusedVariables false
set_option maxRecDepth 20000
open Go Go.Proofs Go.Vc

theorem lightK_u {u : Un} {p w : List Int} {t : Int} (h : lightK u p w t = true) : lightU u = true ∧ p.length ≤ 60 ∧ w.length ≤ 60 := by
  simp only [lightK, Bool.and_eq_true, decide_eq_true_eq] at h
  exact ⟨h.1, by omega, by omega⟩
end Go.Proofs.Ytfifcjgcajpnoaa
/- Claims as arguments. No condition. -/
namespace Go.Proofs.Ytfifcjgcajpnoaa
set_option linter.unusedSimpArgs false
set_option linter.unusedVariables false
open Go Go.Proofs Go.Vc Go.ChangeShapes Go.WideShapes Go.ChangeAt Go.RowKit Go.Joins

abbrev claim20T : List Ty := [.int .i64, .sl [.int .i64], .sl [.int .i64], .sl [.sl insT], .int .i64, .int .i64, .int .i64, .sl [.int .i64], .sl [.int .i64], .int .i64]
theorem claim20_all (Ds : List D) (h : ShA [.many claim20T] Ds) : ∃ u m r md p w t, Ds = [.agg (clC u m r md p w t)] := by
  obtain ⟨_, _, rfl, h, h2⟩ := h
  rw [ShA] at h2; subst h2
  obtain ⟨_, _, rfl, ⟨md, rfl, _⟩, _, _, rfl, h1, _, _, rfl, h2, _, _, rfl, ⟨cr, rfl, _, h3⟩, _, _, rfl, ⟨m, rfl, _⟩, _, _, rfl, ⟨r, rfl, _⟩, _, _, rfl, ⟨mo, rfl, _⟩, _, _, rfl, h4, _, _, rfl, h5, _, _, rfl, ⟨t, rfl, _⟩, h⟩ := h
  rw [ShL] at h; subst h
  obtain ⟨i0, rfl⟩ := sh_ints h1
  obtain ⟨rg, rfl⟩ := sh_ints h2
  obtain ⟨p, rfl⟩ := sh_ints h4
  obtain ⟨w, rfl⟩ := sh_ints h5
  obtain ⟨cd, rfl⟩ := rows_all (fun l : List Ins => [.sl false 7 (insRs l)]) _ (fun r h => sh_row h) cr h3
  exact ⟨⟨md, i0, rg, cd⟩, m, r, mo, p, w, t, rfl⟩
end Go.Proofs.Ytfifcjgcajpnoaa
