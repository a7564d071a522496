/- Contracts: rows of one's own. No condition. -/
import Derived.Test.YtlnmljmeahknaaaXe
namespace Go.Proofs.Ytlnmljmeahknaaa
set_option linter.unusedSimpArgs false
set_option linter.unusedVariables false
set_option maxRecDepth 20000
open Go Go.Proofs Go.Vc

theorem ownI_ok (l : List Int) (hl : l.length ≤ 1000000) : Fun Try.prog 91 [ints l] [] false (fun d H' => ∃ g, d = .gs g l.length ∧ gOk g l.length ∧ H' = shp g 3 1 (iRs l).flatten []) := by
  refine Fun.of T [.tmp 2] Try.func91 rfl Try.ntmps91 Try.results91 rfl (by kernel_rfl) ?_
  repeat' first | refine VCo.step T rfl rfl (fun K hK => ?_); (try simp (disch := omega) only [WB, argE, Nat.reduceBEq, T31, iRs_len]); (first | refine hK _ _ ?_; clear hK K | refine ⟨_, _, _, _, (by repeat (exact Sp.nil)), ?_, (by exact ⟨rfl, rfl⟩), ⟨by decide, by decide, ?_⟩, fun g' hg' => hK _ _ ?_⟩ <;> clear hK K) | refine VC.region ?_ | refine VC.seq' ?_ | (first | refine VCo.nil ?_ | refine VC.ret ?_); (try simp only [QB])
  · rfl
  · omega
  · exact ret1 T (List.Sublist.refl _) ⟨g', rfl, by simpa using hg', rfl⟩

theorem ownE_ok (l : List En) (hl : l.length ≤ 1000000) : Fun Try.prog 108 [buf l] [] false (fun d H' => ∃ g, d = .gs g l.length ∧ gOk g l.length ∧ H' = shp g 25 2 (eRs l).flatten []) := by
  refine Fun.of T [.tmp 2] Try.func108 rfl Try.ntmps108 Try.results108 rfl (by kernel_rfl) ?_
  repeat' first | refine VCo.step T rfl rfl (fun K hK => ?_); (try simp (disch := omega) only [WB, argE, Nat.reduceBEq, T22, eRs_len]); (first | refine hK _ _ ?_; clear hK K | refine ⟨_, _, _, _, (by repeat (exact Sp.nil)), ?_, (by exact ⟨rfl, rfl⟩), ⟨by decide, by decide, ?_⟩, fun g' hg' => hK _ _ ?_⟩ <;> clear hK K) | refine VC.region ?_ | refine VC.seq' ?_ | (first | refine VCo.nil ?_ | refine VC.ret ?_); (try simp only [QB])
  · rfl
  · omega
  · exact ret1 T (List.Sublist.refl _) ⟨g', rfl, by simpa using hg', rfl⟩
theorem ownEf_ok (l : List En) (hl : l.length ≤ 1000000) : Pure Try.prog 108 [buf l] (buf l) :=
  Fun.fz ((ownE_ok l hl).mono fun d H' ⟨g, h1, h2, h3⟩ => by subst h1; subst h3; exact Fz_shp h2 (eRs_len l) (eRs_row l))
theorem ownIf_ok (l : List Int) (hl : l.length ≤ 1000000) : Pure Try.prog 91 [ints l] (ints l) :=
  Fun.fz ((ownI_ok l hl).mono fun d H' ⟨g, h1, h2, h3⟩ => by subst h1; subst h3; exact Fz_shp h2 (iRs_len l) (iRs_row l))
end Go.Proofs.Ytlnmljmeahknaaa
