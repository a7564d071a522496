/- The laws WitnessRound and WitnessPlain. No condition. -/
import Derived.Test.YtfifcjgcajpnoaaSu
import Derived.Test.YtfifcjgcajpnoaaSo
import Derived.Test.YtfifcjgcajpnoaaSq
namespace Go.Proofs.Ytfifcjgcajpnoaa
set_option linter.unusedSimpArgs false
set_option linter.unusedVariables false
set_option maxRecDepth 20000
open Go Go.Proofs Go.Vc
attribute [local irreducible] retQ VCg VCw

set_option maxHeartbeats 16000000 in
theorem lawPlain (u : Un) (m r md : Int) (p w : List Int) (t : Int) : Pure Try.prog 4 [.agg (clC u m r md p w t)] (bD true) := by
  have cl := light20_ok u m r md p w t
  have ck := known20_ok
  refine Fun.of T [.tmp 2] Try.func4 rfl Try.ntmps4 Try.results4 rfl (by kernel_rfl) ?_
  cases hL : lightK u p w t with
  | false =>
    rw [hL] at cl
    repeat' first | refine vb rfl rfl rfl rfl ?_ | refine vs T rfl fun K hK => ?_; (try simp (disch := omega) only [go_sem, Nat.reduceBEq, Nat.reduceAdd, Nat.reduceLeDiff, Bool.not_false]); (first | refine hK _ _ ?_; clear hK K | refine Op1.callp rfl rfl (cl) rfl ?_; refine hK _ _ ?_; clear hK K | refine Op1.callp rfl rfl (ck) rfl ?_; refine hK _ _ ?_; clear hK K) | refine st rfl ?_ | refine sc rfl ?_ | refine nl ?_ | exact ret1 T (List.nil_sublist _) ⟨rfl, rfl⟩
  | true =>
  rw [hL] at cl
  obtain ⟨hl, hp, hw⟩ := lightK_u hL
  have hu := okU_light hl
  obtain ⟨n1, n2, n3, n4, n5⟩ := plain_no (u := u) (m := m) (r := r) md p w
  have a1 : Pure Try.prog 6 [.agg (unC u), iD m, iD r, iD md, ints p, .gs none 0] (bD false) := by
    have := wlas_ok u hu m r md p [] (by omega) (by decide)
    rw [n1] at this
    exact Fun.argsW this (fz_cons (Fz.refl _ _) (fz_cons (Fz.refl _ _) (fz_cons (Fz.refl _ _) (fz_cons (Fz.refl _ _) (fz_cons (Fz.refl _ _) (fz_cons fz_nil fz_end))))))
  have a2 : Pure Try.prog 6 [.agg (unC u), iD m, iD r, iD md, .sl true 1 [[iD (-1)]], ints w] (bD false) := by
    have := wlas_ok u hu m r md [-1] w (by decide) (by omega)
    rw [n2] at this
    exact Fun.argsW this (fz_cons (Fz.refl _ _) (fz_cons (Fz.refl _ _) (fz_cons (Fz.refl _ _) (fz_cons (Fz.refl _ _) (fz_cons fz_sl (fz_cons (Fz.refl _ _) fz_end))))))
  have a3 : Pure Try.prog 9 [.agg (unC u), iD m, iD r, .sl true 1 [[iD (-1)]]] (bD false) := by
    have := wdead_ok u hu m r [-1] (by decide)
    rw [n3] at this
    exact Fun.argsW this (fz_cons (Fz.refl _ _) (fz_cons (Fz.refl _ _) (fz_cons (Fz.refl _ _) (fz_cons fz_sl fz_end))))
  have a4 : Pure Try.prog 10 [.agg (unC u), iD m, iD r, .sl true 1 [[iD 1000]]] (bD false) := by
    have := wfin_ok u hu m r [1000] (by decide)
    rw [n4] at this
    exact Fun.argsW this (fz_cons (Fz.refl _ _) (fz_cons (Fz.refl _ _) (fz_cons (Fz.refl _ _) (fz_cons fz_sl fz_end))))
  have a5 : Pure Try.prog 8 [.agg (unC u), iD m, iD r, .sl true 1 [[iD (-1)]], .gs none 0, iD 0] (bD false) := by
    have := wrun_ok u hu m r [-1] [] 0 (by decide) (by decide)
    rw [n5] at this
    exact Fun.argsW this (fz_cons (Fz.refl _ _) (fz_cons (Fz.refl _ _) (fz_cons (Fz.refl _ _) (fz_cons fz_sl (fz_cons fz_nil (fz_cons (Fz.refl _ _) fz_end))))))
  have c1 := wlas_ok u hu m r md p w (by omega) (by omega)
  cases hW : wLas u m r md p w with
  | false =>
    rw [hW] at c1
    repeat' first | refine vb rfl rfl rfl rfl ?_ | refine vs T rfl fun K hK => ?_; (try simp (disch := omega) only [go_sem, Nat.reduceBEq, Nat.reduceAdd, Nat.reduceMul, Nat.reduceLeDiff, Bool.not_true, Bool.not_false]); (first | refine hK _ _ ?_; clear hK K | refine Op1.callp rfl rfl (cl) rfl ?_; refine hK _ _ ?_; clear hK K | refine Op1.callp rfl rfl (ck) rfl ?_; refine hK _ _ ?_; clear hK K | refine Op1.callp rfl rfl (a1) rfl ?_; refine hK _ _ ?_; clear hK K | refine Op1.callp rfl rfl (a2) rfl ?_; refine hK _ _ ?_; clear hK K | refine Op1.callp rfl rfl (a3) rfl ?_; refine hK _ _ ?_; clear hK K | refine Op1.callp rfl rfl (a4) rfl ?_; refine hK _ _ ?_; clear hK K | refine Op1.callp rfl rfl (a5) rfl ?_; refine hK _ _ ?_; clear hK K | refine Op1.callp rfl rfl (c1) rfl ?_; refine hK _ _ ?_; clear hK K) | refine st rfl ?_ | refine sc rfl ?_ | refine nl ?_ | refine gs rfl rfl ?_ | exact ret1 T (List.nil_sublist _) ⟨rfl, rfl⟩
  | true =>
  rw [hW] at c1
  obtain ⟨d1, d2, d3⟩ := las_plain hu hW
  have c2 := wdead_ok u hu m r p (by omega)
  have c3 := wfin_ok u hu m r p (by omega)
  have c4 := wunf_ok u hu m r md p w (by omega) (by omega)
  rw [d1] at c2
  rw [d2] at c3
  rw [d3] at c4
  repeat' first | refine vb rfl rfl rfl rfl ?_ | refine vs T rfl fun K hK => ?_; (try simp (disch := omega) only [go_sem, Nat.reduceBEq, Nat.reduceAdd, Nat.reduceMul, Nat.reduceLeDiff, Bool.not_true, Bool.not_false, beq_self_eq_true]); (first | refine hK _ _ ?_; clear hK K | refine Op1.callp rfl rfl (cl) rfl ?_; refine hK _ _ ?_; clear hK K | refine Op1.callp rfl rfl (ck) rfl ?_; refine hK _ _ ?_; clear hK K | refine Op1.callp rfl rfl (a1) rfl ?_; refine hK _ _ ?_; clear hK K | refine Op1.callp rfl rfl (a2) rfl ?_; refine hK _ _ ?_; clear hK K | refine Op1.callp rfl rfl (a3) rfl ?_; refine hK _ _ ?_; clear hK K | refine Op1.callp rfl rfl (a4) rfl ?_; refine hK _ _ ?_; clear hK K | refine Op1.callp rfl rfl (a5) rfl ?_; refine hK _ _ ?_; clear hK K | refine Op1.callp rfl rfl (c1) rfl ?_; refine hK _ _ ?_; clear hK K | refine Op1.callp rfl rfl (c2) rfl ?_; refine hK _ _ ?_; clear hK K | refine Op1.callp rfl rfl (c3) rfl ?_; refine hK _ _ ?_; clear hK K | refine Op1.callp rfl rfl (c4) rfl ?_; refine hK _ _ ?_; clear hK K) | refine st rfl ?_ | refine sc rfl ?_ | refine nl ?_ | refine gs rfl rfl ?_ | exact ret1 T (List.nil_sublist _) ⟨rfl, rfl⟩

set_option maxHeartbeats 16000000 in
theorem lawRound (u : Un) (m r md : Int) (p w : List Int) (t : Int) : Pure Try.prog 3 [.agg (clC u m r md p w t)] (bD true) := by
  have cl := light20_ok u m r md p w t
  have ck := known20_ok
  refine Fun.of T [.tmp 2] Try.func3 rfl Try.ntmps3 Try.results3 rfl (by kernel_rfl) ?_
  cases hL : lightK u p w t with
  | false =>
    rw [hL] at cl
    repeat' first | refine vb rfl rfl rfl rfl ?_ | refine vs T rfl fun K hK => ?_; (try simp (disch := omega) only [go_sem, Nat.reduceBEq, Nat.reduceAdd, Nat.reduceLeDiff, Bool.not_false]); (first | refine hK _ _ ?_; clear hK K | refine Op1.callp rfl rfl (cl) rfl ?_; refine hK _ _ ?_; clear hK K | refine Op1.callp rfl rfl (ck) rfl ?_; refine hK _ _ ?_; clear hK K) | refine st rfl ?_ | refine sc rfl ?_ | refine nl ?_ | refine gs rfl rfl ?_ | exact ret1 T (List.nil_sublist _) ⟨rfl, rfl⟩
  | true =>
  rw [hL] at cl
  obtain ⟨hl, hp, hw⟩ := lightK_u hL
  have hu := okU_light hl
  have c1 := wlas_ok u hu m r md p w (by omega) (by omega)
  cases hW : wLas u m r md p w with
  | false =>
    rw [hW] at c1
    repeat' first | refine vb rfl rfl rfl rfl ?_ | refine vs T rfl fun K hK => ?_; (try simp (disch := omega) only [go_sem, Nat.reduceBEq, Nat.reduceAdd, Nat.reduceLeDiff, Bool.not_true, Bool.not_false]); (first | refine hK _ _ ?_; clear hK K | refine Op1.callp rfl rfl (cl) rfl ?_; refine hK _ _ ?_; clear hK K | refine Op1.callp rfl rfl (ck) rfl ?_; refine hK _ _ ?_; clear hK K | refine Op1.callp rfl rfl (c1) rfl ?_; refine hK _ _ ?_; clear hK K) | refine st rfl ?_ | refine sc rfl ?_ | refine nl ?_ | refine gs rfl rfl ?_ | exact ret1 T (List.nil_sublist _) ⟨rfl, rfl⟩
  | true =>
  rw [hW] at c1
  obtain ⟨d1, d2, d3, d4⟩ := las_round hW
  obtain ⟨_, hw0, _⟩ := las_spec hW
  have hd : decide ((w.length : Int) > 0) = true := by simp; omega
  have c2 := wrun_ok u hu m r p w 7 (by omega) (by omega)
  have c3 := wlas_ok u hu m r md (p ++ w) w (by rw [List.length_append]; omega) (by omega)
  have c4 := wlas_ok u hu m r md p (w ++ w) (by omega) (by rw [List.length_append]; omega)
  have c5 := wlas_ok u hu m r 1 p w (by omega) (by omega)
  rw [d1] at c2
  rw [d2] at c3
  rw [d3] at c4
  rw [d4] at c5
  repeat' first | refine vb rfl rfl rfl rfl ?_ | refine vs T rfl fun K hK => ?_; (try simp (disch := omega) only [go_sem, Nat.reduceBEq, Nat.reduceAdd, Nat.reduceLeDiff, Bool.not_true, iRs_len, flatI, List.nil_append, hd]); (first | refine hK _ _ ?_; clear hK K | refine ⟨_, _, _, _, (by repeat (first | exact Sp.here | exact Sp.nil)), ?_, (by exact ⟨rfl, rfl⟩), ⟨by decide, ?_⟩, fun g' hg' => hK _ _ ?_⟩ <;> clear hK K | refine Op1.callp rfl rfl (cl) rfl ?_; refine hK _ _ ?_; clear hK K | refine Op1.callp rfl rfl (c1) rfl ?_; refine hK _ _ ?_; clear hK K | refine Op1.callp rfl rfl (c2) rfl ?_; refine hK _ _ ?_; clear hK K | skip) | refine st rfl ?_ | refine sc rfl ?_ | refine nl ?_ | refine gs rfl rfl ?_
  all_goals first | rfl | omega | (simp; done) | skip
  rename_i g1 hg1 g2 hg2 g3 hg3
  have z3 : FzL (shp g' 3 1 (w.map iD ++ w.map iD) (shp g2 3 1 (p.map iD ++ w.map iD) [])) [.agg (unC u), iD m, iD r, iD md, ints (p ++ w), ints w] [.agg (unC u), iD m, iD r, iD md, .gs g2 (p.length + w.length), ints w] := by
    have := Fz_ints (g := g2) (e := 3) (s := p ++ w) (H := shp g' 3 1 (w.map iD ++ w.map iD) (shp g2 3 1 (p.map iD ++ w.map iD) [])) (by rw [List.length_append]; exact hg2) (fun b cap hb => mem_shp (by subst hb; rw [List.map_append]; exact mem_shp0))
    rw [List.length_append] at this
    exact fz_cons (Fz.refl _ _) (fz_cons (Fz.refl _ _) (fz_cons (Fz.refl _ _) (fz_cons (Fz.refl _ _) (fz_cons this (fz_cons (Fz.refl _ _) fz_end)))))
  have z4 : FzL (shp g' 3 1 (w.map iD ++ w.map iD) (shp g2 3 1 (p.map iD ++ w.map iD) [])) [.agg (unC u), iD m, iD r, iD md, ints p, ints (w ++ w)] [.agg (unC u), iD m, iD r, iD md, ints p, .gs g' (w.length + w.length)] := by
    have := Fz_ints (g := g') (e := 3) (s := w ++ w) (H := shp g' 3 1 (w.map iD ++ w.map iD) (shp g2 3 1 (p.map iD ++ w.map iD) [])) (by rw [List.length_append]; exact hg') (fun b cap hb => by subst hb; rw [List.map_append]; exact mem_shp0)
    rw [List.length_append] at this
    exact fz_cons (Fz.refl _ _) (fz_cons (Fz.refl _ _) (fz_cons (Fz.refl _ _) (fz_cons (Fz.refl _ _) (fz_cons (Fz.refl _ _) (fz_cons this fz_end)))))
  refine Op1.lend rfl rfl c3 z3 (.inr rfl) ?_
  refine hK _ _ ?_
  clear hK K
  repeat' first | refine vs T rfl fun K hK => ?_; (try simp (disch := omega) only [go_sem, Nat.reduceBEq, Nat.reduceAdd, Nat.reduceLeDiff]); (first | refine hK _ _ ?_; clear hK K | refine Op1.callp rfl rfl (ck) rfl ?_; refine hK _ _ ?_; clear hK K | refine Op1.callp rfl rfl (c5) rfl ?_; refine hK _ _ ?_; clear hK K | refine Op1.lend rfl rfl (c4) (z4) (.inr rfl) ?_; refine hK _ _ ?_; clear hK K) | refine st rfl ?_ | refine nl ?_ | refine gs rfl rfl ?_ | exact ret1 T (List.nil_sublist _) ⟨rfl, rfl⟩
end Go.Proofs.Ytfifcjgcajpnoaa
