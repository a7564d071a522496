/- Configurations as arguments. No condition. -/
import Derived.Test.YtomcmfbpmkklmaaZc
namespace Go.Proofs.Ytomcmfbpmkklmaa
set_option linter.unusedSimpArgs false
set_option linter.unusedVariables false
open Go Go.Proofs Go.Vc Go.ChangeShapes Go.WideShapes Go.ChangeAt Go.RowKit Go.Joins
abbrev confT : List Ty := [.sl [.int .i64], .sl [.sl [.int .i64]], .sl [.int .i64], .sl [.sl [.int .i64, .int .i64]]]
theorem conf_all {l : List D} (h : ShL confT l) : ∃ c, l = cfC c := by
 obtain ⟨_, _, rfl, h4, _, _, rfl, ⟨rr, rfl, _, h5⟩, _, _, rfl, h6, _, _, rfl, ⟨br, rfl, _, h7⟩, h⟩ := h
 rw [ShL] at h; subst h
 obtain ⟨pc, rfl⟩ := sh_ints h4
 obtain ⟨me, rfl⟩ := sh_ints h6
 obtain ⟨rs, rfl⟩ := rows_all (fun l : List Int => [ints l]) _ (fun r h => by
  obtain ⟨_, _, rfl, h1, h⟩ := h
  rw [ShL] at h; subst h
  obtain ⟨l, rfl⟩ := sh_ints h1
  exact ⟨l, rfl⟩) rr h5
 obtain ⟨bs, rfl⟩ := rows_all (fun l : List En => [buf l]) _ (fun r h => by
  obtain ⟨_, _, rfl, h1, h⟩ := h
  rw [ShL] at h; subst h
  obtain ⟨l, rfl⟩ := sh_buf h1
  exact ⟨l, rfl⟩) br h7
 exact ⟨⟨pc, rs, me, bs⟩, rfl⟩
end Go.Proofs.Ytomcmfbpmkklmaa
