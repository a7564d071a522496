/- Units, cases and bytes as arguments. No condition. -/
import Derived.Test.YtlnmljmeahknaaaZc
import Derived.Test.YtlnmljmeahknaaaRj
namespace Go.Proofs.Ytlnmljmeahknaaa
set_option linter.unusedSimpArgs false
set_option linter.unusedVariables false
open Go Go.Proofs Go.Vc Go.ChangeShapes Go.WideShapes Go.ChangeAt Go.RowKit Go.Joins

abbrev unitT : List Ty := [.int .i64, .sl [.int .i64], .sl [.int .i64], .sl [.sl insT]]
theorem unit_all {l : List D} (h : ShL unitT l) : ∃ u, l = unC u := by
  obtain ⟨_, _, rfl, ⟨md, rfl, _⟩, _, _, rfl, h1, _, _, rfl, h2, _, _, rfl, ⟨cr, rfl, _, h3⟩, h⟩ := h
  rw [ShL] at h; subst h
  obtain ⟨i0, rfl⟩ := sh_ints h1
  obtain ⟨rg, rfl⟩ := sh_ints h2
  obtain ⟨cd, rfl⟩ := rows_all (fun l : List Ins => [.sl false 7 (insRs l)]) _ (fun r h => sh_row h) cr h3
  exact ⟨⟨md, i0, rg, cd⟩, rfl⟩
abbrev case11T : List Ty := [.int .i64, .sl [.int .i64], .sl [.int .i64], .sl [.sl insT], .sl [.int .i64], .sl [.sl [.int .i64]], .sl [.int .i64], .sl [.sl [.int .i64, .int .i64]], .int .i64, .int .i64, .int .i64]
theorem case11_all (Ds : List D) (h : ShA [.many case11T] Ds) : ∃ u c m r a, Ds = [.agg (cbC u c m r a)] := by
  obtain ⟨_, _, rfl, h, h2⟩ := h
  rw [ShA] at h2; subst h2
  obtain ⟨_, _, rfl, ⟨md, rfl, _⟩, _, _, rfl, h1, _, _, rfl, h2, _, _, rfl, ⟨cr, rfl, _, h3⟩, _, _, rfl, h4, _, _, rfl, ⟨rr, rfl, _, h5⟩, _, _, rfl, h6, _, _, rfl, ⟨br, rfl, _, h7⟩, _, _, rfl, ⟨m, rfl, _⟩, _, _, rfl, ⟨r, rfl, _⟩, _, _, rfl, ⟨t, rfl, _⟩, h⟩ := h
  rw [ShL] at h; subst h
  obtain ⟨i0, rfl⟩ := sh_ints h1
  obtain ⟨rg, rfl⟩ := sh_ints h2
  obtain ⟨pc, rfl⟩ := sh_ints h4
  obtain ⟨me, rfl⟩ := sh_ints h6
  obtain ⟨cd, rfl⟩ := rows_all (fun l : List Ins => [.sl false 7 (insRs l)]) _ (fun r h => sh_row h) cr h3
  obtain ⟨rs, rfl⟩ := rows_all (fun l : List Int => [ints l]) _ (fun r h => by
    obtain ⟨_, _, rfl, h1, h⟩ := h
    rw [ShL] at h; subst h
    obtain ⟨l, rfl⟩ := sh_ints h1
    exact ⟨l, rfl⟩) rr h5
  obtain ⟨bs, rfl⟩ := rows_all (fun l : List En => [buf l]) _ (fun r h => by
    obtain ⟨_, _, rfl, h1, h⟩ := h
    rw [ShL] at h; subst h
    obtain ⟨l, rfl⟩ := sh_buf h1
    exact ⟨l, rfl⟩) br h7
  exact ⟨⟨md, i0, rg, cd⟩, ⟨pc, rs, me, bs⟩, m, r, t, rfl⟩
theorem byte_wf {n : Int} (h : (Lit.int .u8 n).wf = true) : 0 ≤ n ∧ n ≤ 255 := by
  simp only [Lit.wf, Bool.and_eq_true, decide_eq_true_eq] at h
  have h1 : IntKind.u8.min = 0 := by decide
  have h2 : IntKind.u8.max = 255 := by decide
  omega
end Go.Proofs.Ytlnmljmeahknaaa
