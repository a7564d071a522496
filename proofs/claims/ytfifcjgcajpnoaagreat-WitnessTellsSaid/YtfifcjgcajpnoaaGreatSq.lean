/- The laws WitnessTells and WitnessEnds. No condition. -/
import Derived.Test.YtfifcjgcajpnoaaGreatSo
import Derived.Test.YtfifcjgcajpnoaaGreatSm
import Derived.Test.YtfifcjgcajpnoaaGreatRt
namespace Go.Proofs.YtfifcjgcajpnoaaGreat
set_option linter.unusedSimpArgs false
set_option linter.unusedVariables false
set_option maxRecDepth 20000
open Go Go.Proofs Go.Vc
attribute [local irreducible] retQ VCg VCw

theorem lightK_u {u : Un} {p w : List Int} {t : Int} (h : lightK u p w t = true) : lightU u = true ∧ p.length ≤ 60 ∧ w.length ≤ 60 := by
  simp only [lightK, Bool.and_eq_true, decide_eq_true_eq] at h
  exact ⟨h.1, by omega, by omega⟩
set_option maxHeartbeats 16000000 in
theorem lawTells (u : Un) (m r md : Int) (p w : List Int) (t : Int) : Pure Tryz.prog 3 [.agg (clC u m r md p w t)] (bD true) := by
  have cl := light20_ok u m r md p w t
  have ck := known20_ok
  refine Fun.of T [.tmp 2] Tryz.func3 rfl Tryz.ntmps3 Tryz.results3 rfl (by kernel_rfl) ?_
  cases hL : lightK u p w t with
  | false =>
    rw [hL] at cl
    repeat' first | refine vb rfl rfl rfl rfl ?_ | refine vs T rfl fun K hK => ?_; (try simp (disch := omega) only [go_sem, Nat.reduceBEq, Nat.reduceAdd, Nat.reduceLeDiff, Bool.not_false]); (first | refine hK _ _ ?_; clear hK K | refine Op1.callp rfl rfl (cl) rfl ?_; refine hK _ _ ?_; clear hK K | refine Op1.callp rfl rfl (ck) rfl ?_; refine hK _ _ ?_; clear hK K) | refine st rfl ?_ | refine sc rfl ?_ | refine nl ?_ | exact ret1 T (List.nil_sublist _) ⟨rfl, rfl⟩
  | true =>
  rw [hL] at cl
  obtain ⟨hu, hp, hw⟩ := lightK_u hL
  have c1 := wlas_ok u (okU_light hu) m r md p w (by omega) (by omega)
  have c2 := rwlas_ok u (okU_light hu) m r md p w (by omega) (by omega)
  have c3 := wunf_ok u (okU_light hu) m r md p w (by omega) (by omega)
  have c4 := rwunf_ok u (okU_light hu) m r md p w (by omega) (by omega)
  have c5 := wrun_ok u (okU_light hu) m r p w t (by omega) (by omega)
  have c6 := rwrun_ok u (okU_light hu) m r p w t (by omega) (by omega)
  generalize wLas u m r md p w = x1 at *
  generalize wUnf u m r md p w = x2 at *
  generalize wRun u m r p w t = x3 at *
  repeat' first | refine vb rfl rfl rfl rfl ?_ | refine dr (id := 3) T 82 (by kernel_rfl) ?_ | refine gn ?_ | (first | apply VCg.step T rfl rfl | apply exF); focus ((try simp (disch := omega) only [go_sem, Nat.reduceBEq, Nat.reduceAdd, Nat.reduceLeDiff, beq_self_eq_true]); (first | exact rfl | refine Op1.callp rfl rfl (c1) rfl ?_; exact ⟨rfl, rfl⟩ | refine Op1.callp rfl rfl (c2) rfl ?_; exact ⟨rfl, rfl⟩ | refine Op1.callp rfl rfl (c3) rfl ?_; exact ⟨rfl, rfl⟩ | refine Op1.callp rfl rfl (c4) rfl ?_; exact ⟨rfl, rfl⟩ | refine Op1.callp rfl rfl (c5) rfl ?_; exact ⟨rfl, rfl⟩)) | refine VCg.gstep T rfl rfl rfl rfl ?_; try simp only [GB] | refine vs T rfl fun K hK => ?_; (try simp (disch := omega) only [go_sem, Nat.reduceBEq, Nat.reduceAdd, Nat.reduceLeDiff, beq_self_eq_true, Bool.not_true]); (first | refine hK _ _ ?_; clear hK K | refine Op1.callp rfl rfl (cl) rfl ?_; refine hK _ _ ?_; clear hK K | refine Op1.callp rfl rfl (ck) rfl ?_; refine hK _ _ ?_; clear hK K | refine Op1.callp rfl rfl (c6) rfl ?_; refine hK _ _ ?_; clear hK K) | refine st rfl ?_ | refine sc rfl ?_ | refine nl ?_ | refine gs rfl rfl ?_ | exact ret1 T (List.nil_sublist _) ⟨rfl, rfl⟩
end Go.Proofs.YtfifcjgcajpnoaaGreat
/- Claims as arguments. No condition. -/
namespace Go.Proofs.YtfifcjgcajpnoaaGreat
set_option linter.unusedSimpArgs false
set_option linter.unusedVariables false
open Go Go.Proofs Go.Vc Go.ChangeShapes Go.WideShapes Go.ChangeAt Go.RowKit Go.Joins

abbrev claim20T : List Ty := [.int .i64, .sl [.int .i64], .sl [.int .i64], .sl [.sl insT], .int .i64, .int .i64, .int .i64, .sl [.int .i64], .sl [.int .i64], .int .i64]
theorem claim20_all (Ds : List D) (h : ShA [.many claim20T] Ds) : ∃ u m r md p w t, Ds = [.agg (clC u m r md p w t)] := by
  obtain ⟨_, _, rfl, h, h2⟩ := h
  rw [ShA] at h2; subst h2
  obtain ⟨_, _, rfl, ⟨md, rfl, _⟩, _, _, rfl, h1, _, _, rfl, h2, _, _, rfl, ⟨cr, rfl, _, h3⟩, _, _, rfl, ⟨m, rfl, _⟩, _, _, rfl, ⟨r, rfl, _⟩, _, _, rfl, ⟨mo, rfl, _⟩, _, _, rfl, h4, _, _, rfl, h5, _, _, rfl, ⟨t, rfl, _⟩, h⟩ := h
  rw [ShL] at h; subst h
  obtain ⟨i0, rfl⟩ := sh_ints h1
  obtain ⟨rg, rfl⟩ := sh_ints h2
  obtain ⟨p, rfl⟩ := sh_ints h4
  obtain ⟨w, rfl⟩ := sh_ints h5
  obtain ⟨cd, rfl⟩ := rows_all (fun l : List Ins => [.sl false 7 (insRs l)]) _ (fun r h => sh_row h) cr h3
  exact ⟨⟨md, i0, rg, cd⟩, m, r, mo, p, w, t, rfl⟩
end Go.Proofs.YtfifcjgcajpnoaaGreat
