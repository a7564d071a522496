/- Configurations as arguments. No condition. -/
import Derived.Test.YtomcmfbpmkklmaaGreatZc
namespace Go.Proofs.YtomcmfbpmkklmaaGreat
set_option linter.unusedSimpArgs false
set_option linter.unusedVariables false
open Go Go.Proofs Go.Vc Go.ChangeShapes Go.WideShapes Go.ChangeAt Go.RowKit Go.Joins
abbrev case29T : List Ty := [.int .i64, .sl [.int .i64], .sl [.int .i64], .sl [.sl insT], .int .i64, .int .i64, .int .i64]
theorem case29_all {l : List D} (h : ShL case29T l) : ∃ u m r b, l = unC u ++ [iD m, iD r, iD b] := by
 obtain ⟨_, _, rfl, ⟨md, rfl, _⟩, _, _, rfl, h1, _, _, rfl, h2, _, _, rfl, ⟨cr, rfl, _, h3⟩, _, _, rfl, ⟨m, rfl, _⟩, _, _, rfl, ⟨r, rfl, _⟩, _, _, rfl, ⟨b, rfl, _⟩, h⟩ := h
 rw [ShL] at h; subst h
 obtain ⟨i0, rfl⟩ := sh_ints h1
 obtain ⟨rg, rfl⟩ := sh_ints h2
 obtain ⟨cd, rfl⟩ := rows_all (fun l : List Ins => [.sl false 7 (insRs l)]) _ (fun r h => sh_row h) cr h3
 exact ⟨⟨md, i0, rg, cd⟩, m, r, b, rfl⟩
end Go.Proofs.YtomcmfbpmkklmaaGreat
