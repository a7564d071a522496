/- Contracts: to whom a circle is unfair, and whether it is a lasso, as the reference says. No condition. -/
import Derived.Test.YtfifcjgcajpnoaaSj
import Derived.Test.YtfifcjgcajpnoaaSm
import Derived.Test.YtfifcjgcajpnoaaYq
import Derived.Test.YtfifcjgcajpnoaaXk
namespace Go.Proofs.Ytfifcjgcajpnoaa
set_option linter.unusedSimpArgs false
set_option linter.unusedVariables false
set_option maxRecDepth 20000
open Go Go.Proofs Go.Vc

end Go.Proofs.Ytfifcjgcajpnoaa
/- What chapter 20's statements take, and their known calls. No condition. -/
namespace Go.Proofs.Ytfifcjgcajpnoaa
set_option linter.unusedSimpArgs false
set_option linter.unusedVariables false
set_option maxRecDepth 20000
open Go Go.Proofs Go.Vc
attribute [local irreducible] retQ VCg VCw

theorem RelL.wk' {w : World} {L : Nat → Prop} : ∀ (l' l : List D) (vs : List Value), WkL l' l → RelL w L l vs → RelL w L l' vs
  | [], _, vs, h, r => by cases h; exact r
  | d' :: ds', _, vs, h, r => by
    obtain ⟨d, ds, rfl, h1, h2⟩ := h
    obtain ⟨v, vs', rfl, r1, r2⟩ := r
    exact ⟨v, vs', rfl, Rel.wk _ _ _ h1 r1, RelL.wk' _ _ _ h2 r2⟩
theorem Fun.argsWk {P : Program} {f : FuncId} {args args' : List D} {d : D} (h : Pure P f args' d) (hf : WkL args' args) : Pure P f args d :=
  ⟨h.1, fun w L0 vs hi hr => h.2 w L0 vs hi (RelL.wk' _ _ _ hf hr)⟩
/-- The cells of a claim. -/
abbrev clC (u : Un) (m r md : Int) (p w : List Int) (t : Int) : List D := unC u ++ [iD m, iD r, iD md, ints p, ints w, iD t]
def lightK (u : Un) (p w : List Int) (t : Int) : Bool := lightU u && (decide ((p.length : Int) ≤ 60) && (decide ((w.length : Int) ≤ 60) && decide (t ≤ 20)))
set_option maxHeartbeats 4000000 in
theorem light20_ok (u : Un) (m r md : Int) (p w : List Int) (t : Int) : Pure Try.prog 5 [.agg (clC u m r md p w t)] (bD (lightK u p w t)) := by
  have cu := ulight_ok u
  unfold lightK
  refine Fun.of T [.tmp 2] Try.func5 rfl Try.ntmps5 Try.results5 rfl (by kernel_rfl) ?_
  cases h1 : lightU u with
  | false =>
    rw [h1] at cu
    rw [Bool.false_and]
    repeat' first | refine vb rfl rfl rfl rfl ?_ | refine vs T rfl fun K hK => ?_; (try simp (disch := omega) only [go_sem, Nat.reduceBEq, Nat.reduceAdd, Nat.reduceLeDiff]); (first | refine hK _ _ ?_; clear hK K | refine Op1.callp rfl rfl (cu) rfl ?_; refine hK _ _ ?_; clear hK K) | refine st rfl ?_ | refine nl ?_ | refine gs rfl rfl ?_ | exact ret1 T (List.nil_sublist _) ⟨rfl, rfl⟩
  | true =>
  rw [h1] at cu
  rw [Bool.true_and]
  cases h2 : decide ((p.length : Int) ≤ 60) with
  | false =>
    rw [Bool.false_and]
    repeat' first | refine vb rfl rfl rfl rfl ?_ | refine vs T rfl fun K hK => ?_; (try simp (disch := omega) only [go_sem, Nat.reduceBEq, Nat.reduceAdd, Nat.reduceLeDiff, h2, iRs_len]); (first | refine hK _ _ ?_; clear hK K | refine Op1.callp rfl rfl (cu) rfl ?_; refine hK _ _ ?_; clear hK K) | refine st rfl ?_ | refine nl ?_ | refine gs rfl rfl ?_ | exact ret1 T (List.nil_sublist _) ⟨rfl, rfl⟩
  | true =>
  rw [Bool.true_and]
  cases h3 : decide ((w.length : Int) ≤ 60) with
  | false =>
    rw [Bool.false_and]
    repeat' first | refine vb rfl rfl rfl rfl ?_ | refine vs T rfl fun K hK => ?_; (try simp (disch := omega) only [go_sem, Nat.reduceBEq, Nat.reduceAdd, Nat.reduceLeDiff, h2, h3, iRs_len]); (first | refine hK _ _ ?_; clear hK K | refine Op1.callp rfl rfl (cu) rfl ?_; refine hK _ _ ?_; clear hK K) | refine st rfl ?_ | refine nl ?_ | refine gs rfl rfl ?_ | exact ret1 T (List.nil_sublist _) ⟨rfl, rfl⟩
  | true =>
  rw [Bool.true_and]
  repeat' first | refine vb rfl rfl rfl rfl ?_ | refine vs T rfl fun K hK => ?_; (try simp (disch := omega) only [go_sem, Nat.reduceBEq, Nat.reduceAdd, Nat.reduceLeDiff, h2, h3, iRs_len]); (first | refine hK _ _ ?_; clear hK K | refine Op1.callp rfl rfl (cu) rfl ?_; refine hK _ _ ?_; clear hK K) | refine st rfl ?_ | refine nl ?_ | refine gs rfl rfl ?_ | exact ret1 T (List.nil_sublist _) ⟨rfl, rfl⟩
/-- The units of the known calls. -/
def U20 : Un := ⟨2, [], [0, 0], [[⟨20, 0, 0, [], [], false, 0⟩, ⟨22, 0, 0, [], [], false, 0⟩], [⟨8, 0, 0, [], [], false, 0⟩, ⟨22, 0, 0, [], [], false, 0⟩]]⟩
def V20 : Un := ⟨2, [0], [0], [[⟨9, 0, 0, one1, [], false, 0⟩, ⟨22, 0, 0, [], [], false, 0⟩]]⟩
def W20 : Un := ⟨2, [], [0], [[⟨22, 0, 0, [], [], false, 0⟩]]⟩
abbrev vD : D := .agg [iD 2, .sl true 1 [[iD 0]], .sl true 1 [[iD 0]], .sl true 1 [[.sl true 7 [[iD 9, iD 0, iD 0, opT, .gs none 0, bD false, iD 0], [iD 22, iD 0, iD 0, .gs none 0, .gs none 0, bD false, iD 0]]]]]
abbrev wD : D := .agg [iD 2, .gs none 0, .sl true 1 [[iD 0]], .sl true 1 [[.sl true 7 [[iD 22, iD 0, iD 0, .gs none 0, .gs none 0, bD false, iD 0]]]]]
set_option maxHeartbeats 4000000 in
theorem unit20_ok : Pure Try.prog 17 [] (.agg (unC U20)) := by
  refine Pure.wk (d := .agg [iD 2, .gs none 0, .sl true 1 [[iD 0], [iD 0]], .sl true 1 [[.sl true 7 [[iD 20, iD 0, iD 0, .gs none 0, .gs none 0, bD false, iD 0], [iD 22, iD 0, iD 0, .gs none 0, .gs none 0, bD false, iD 0]]],
    [.sl true 7 [[iD 8, iD 0, iD 0, .gs none 0, .gs none 0, bD false, iD 0], [iD 22, iD 0, iD 0, .gs none 0, .gs none 0, bD false, iD 0]]]]]) ?_ ?_
  · refine Fun.of T [.cell 0 25] Try.func17 rfl Try.ntmps17 Try.results17 rfl (by kernel_rfl) ?_
    repeat' first | refine vs T rfl fun K hK => ?_; (try simp (disch := omega) only [go_sem, Nat.reduceBEq, Nat.reduceAdd, Nat.reduceMul, Nat.reduceLeDiff]); (first | refine hK _ _ ?_; clear hK K | intro bq hbq; (try simp only [HB] at hbq); refine hK _ _ ?_; clear hK K) | refine st rfl ?_ | refine nl ?_ | exact retc T rfl (by (simp (disch := omega) only [hget_eq]) <;> rfl) rfl rfl rfl (List.nil_sublist _) ⟨rfl, rfl⟩
    all_goals rfl
  · refine wk_agg ?_
    repeat' first | exact wk_is | exact wk_nil | exact wk_end | exact wkr_end | apply wk_sl | apply wk_cons | apply wkr_cons
theorem okU20 : OkU U20 := okU_light (by kernel_rfl)
theorem okV20 : OkU V20 := okU_light (by kernel_rfl)
theorem okW20 : OkU W20 := okU_light (by kernel_rfl)
theorem wk_V : Wk (.agg (unC V20)) vD := by
  refine wk_agg ?_
  repeat' first | exact wk_is | exact wk_nil | exact wk_end | exact wkr_end | apply wk_sl | apply wk_cons | apply wkr_cons
theorem wk_W : Wk (.agg (unC W20)) wD := by
  refine wk_agg ?_
  repeat' first | exact wk_is | exact wk_nil | exact wk_end | exact wkr_end | apply wk_sl | apply wk_cons | apply wkr_cons
set_option maxHeartbeats 8000000 in
theorem known20_ok : Pure Try.prog 7 [] (bD true) := by
  have cu := unit20_ok
  have a1 : Pure Try.prog 6 [.agg (unC U20), iD 1, iD 1, iD 2, .sl true 1 [[iD 1]], .sl true 1 [[iD 0]]] (bD true) := by
    have := wlas_ok U20 okU20 1 1 2 [1] [0] (by decide) (by decide)
    rw [show wLas U20 1 1 2 [1] [0] = true by kernel_rfl] at this
    exact Fun.argsW this (fz_cons (Fz.refl _ _) (fz_cons (Fz.refl _ _) (fz_cons (Fz.refl _ _) (fz_cons (Fz.refl _ _) (fz_cons fz_sl (fz_cons fz_sl fz_end))))))
  have a2 : Pure Try.prog 6 [.agg (unC U20), iD 1, iD 1, iD 1, .gs none 0, .sl true 1 [[iD 0]]] (bD false) := by
    have := wlas_ok U20 okU20 1 1 1 [] [0] (by decide) (by decide)
    rw [show wLas U20 1 1 1 [] [0] = false by kernel_rfl] at this
    exact Fun.argsW this (fz_cons (Fz.refl _ _) (fz_cons (Fz.refl _ _) (fz_cons (Fz.refl _ _) (fz_cons (Fz.refl _ _) (fz_cons fz_nil (fz_cons fz_sl fz_end))))))
  have a3 : Pure Try.prog 11 [.agg (unC U20), iD 1, iD 1, iD 1, .gs none 0, .sl true 1 [[iD 0]]] (iD 1) := by
    have := wunf_ok U20 okU20 1 1 1 [] [0] (by decide) (by decide)
    rw [show wUnf U20 1 1 1 [] [0] = 1 by kernel_rfl] at this
    exact Fun.argsW this (fz_cons (Fz.refl _ _) (fz_cons (Fz.refl _ _) (fz_cons (Fz.refl _ _) (fz_cons (Fz.refl _ _) (fz_cons fz_nil (fz_cons fz_sl fz_end))))))
  have a4 : Pure Try.prog 11 [.agg (unC U20), iD 1, iD 1, iD 1, .sl true 1 [[iD 1]], .sl true 1 [[iD 0]]] (iD (-1)) := by
    have := wunf_ok U20 okU20 1 1 1 [1] [0] (by decide) (by decide)
    rw [show wUnf U20 1 1 1 [1] [0] = -1 by kernel_rfl] at this
    exact Fun.argsW this (fz_cons (Fz.refl _ _) (fz_cons (Fz.refl _ _) (fz_cons (Fz.refl _ _) (fz_cons (Fz.refl _ _) (fz_cons fz_sl (fz_cons fz_sl fz_end))))))
  have a5 : Pure Try.prog 6 [.agg (unC U20), iD 1, iD 1, iD 1, .gs none 0, .sl true 1 [[iD 1]]] (bD false) := by
    have := wlas_ok U20 okU20 1 1 1 [] [1] (by decide) (by decide)
    rw [show wLas U20 1 1 1 [] [1] = false by kernel_rfl] at this
    exact Fun.argsW this (fz_cons (Fz.refl _ _) (fz_cons (Fz.refl _ _) (fz_cons (Fz.refl _ _) (fz_cons (Fz.refl _ _) (fz_cons fz_nil (fz_cons fz_sl fz_end))))))
  have a6 : Pure Try.prog 9 [vD, iD 1, iD 1, .gs none 0] (bD true) := by
    have := wdead_ok V20 okV20 1 1 [] (by decide)
    rw [show wDead V20 1 1 [] = true by kernel_rfl] at this
    exact Fun.argsWk this (wk_cons wk_V (wk_cons wk_is (wk_cons wk_is (wk_cons wk_nil wk_end))))
  have a7 : Pure Try.prog 9 [.agg (unC U20), iD 1, iD 1, .gs none 0] (bD false) := by
    have := wdead_ok U20 okU20 1 1 [] (by decide)
    rw [show wDead U20 1 1 [] = false by kernel_rfl] at this
    exact Fun.argsW this (fz_cons (Fz.refl _ _) (fz_cons (Fz.refl _ _) (fz_cons (Fz.refl _ _) (fz_cons fz_nil fz_end))))
  have a8 : Pure Try.prog 10 [wD, iD 1, iD 1, .gs none 0] (bD true) := by
    have := wfin_ok W20 okW20 1 1 [] (by decide)
    rw [show wFin W20 1 1 [] = true by kernel_rfl] at this
    exact Fun.argsWk this (wk_cons wk_W (wk_cons wk_is (wk_cons wk_is (wk_cons wk_nil wk_end))))
  have a9 : Pure Try.prog 10 [.agg (unC U20), iD 1, iD 1, .gs none 0] (bD false) := by
    have := wfin_ok U20 okU20 1 1 [] (by decide)
    rw [show wFin U20 1 1 [] = false by kernel_rfl] at this
    exact Fun.argsW this (fz_cons (Fz.refl _ _) (fz_cons (Fz.refl _ _) (fz_cons (Fz.refl _ _) (fz_cons fz_nil fz_end))))
  have b1 : Pure Try.prog 8 [.agg (unC U20), iD 1, iD 1, .sl true 1 [[iD 1]], .sl true 1 [[iD 0], [iD 0]], iD 9] (bD true) := by
    have := wrun_ok U20 okU20 1 1 [1] [0, 0] 9 (by decide) (by decide)
    rw [show wRun U20 1 1 [1] [0, 0] 9 = true by kernel_rfl] at this
    exact Fun.argsW this (fz_cons (Fz.refl _ _) (fz_cons (Fz.refl _ _) (fz_cons (Fz.refl _ _) (fz_cons fz_sl (fz_cons fz_sl (fz_cons (Fz.refl _ _) fz_end))))))
  have b2 : Pure Try.prog 8 [.agg (unC U20), iD 1, iD 1, .gs none 0, .sl true 1 [[iD 1]], iD 1] (bD false) := by
    have := wrun_ok U20 okU20 1 1 [] [1] 1 (by decide) (by decide)
    rw [show wRun U20 1 1 [] [1] 1 = false by kernel_rfl] at this
    exact Fun.argsW this (fz_cons (Fz.refl _ _) (fz_cons (Fz.refl _ _) (fz_cons (Fz.refl _ _) (fz_cons fz_nil (fz_cons fz_sl (fz_cons (Fz.refl _ _) fz_end))))))
  have b3 : Pure Try.prog 8 [.agg (unC U20), iD 1, iD 1, .gs none 0, .sl true 1 [[iD 1]], iD 0] (bD true) := by
    have := wrun_ok U20 okU20 1 1 [] [1] 0 (by decide) (by decide)
    rw [show wRun U20 1 1 [] [1] 0 = true by kernel_rfl] at this
    exact Fun.argsW this (fz_cons (Fz.refl _ _) (fz_cons (Fz.refl _ _) (fz_cons (Fz.refl _ _) (fz_cons fz_nil (fz_cons fz_sl (fz_cons (Fz.refl _ _) fz_end))))))
  refine Fun.of T [.tmp 0] Try.func7 rfl Try.ntmps7 Try.results7 rfl (by kernel_rfl) ?_
  repeat' first | refine vs T rfl fun K hK => ?_; (try simp (disch := omega) only [go_sem, Nat.reduceBEq, Nat.reduceAdd, Nat.reduceMul, Nat.reduceLeDiff, beq_self_eq_true, Bool.not_false]); (first | refine hK _ _ ?_; clear hK K | intro bq hbq; (try simp only [HB] at hbq); refine hK _ _ ?_; clear hK K | refine Op1.callp rfl rfl (cu) rfl ?_; refine hK _ _ ?_; clear hK K | refine Op1.callp rfl rfl (a1) rfl ?_; refine hK _ _ ?_; clear hK K | refine Op1.callp rfl rfl (a2) rfl ?_; refine hK _ _ ?_; clear hK K | refine Op1.callp rfl rfl (a3) rfl ?_; refine hK _ _ ?_; clear hK K | refine Op1.callp rfl rfl (a4) rfl ?_; refine hK _ _ ?_; clear hK K | refine Op1.callp rfl rfl (a5) rfl ?_; refine hK _ _ ?_; clear hK K | refine Op1.callp rfl rfl (a6) rfl ?_; refine hK _ _ ?_; clear hK K | refine Op1.callp rfl rfl (a7) rfl ?_; refine hK _ _ ?_; clear hK K | refine Op1.callp rfl rfl (a8) rfl ?_; refine hK _ _ ?_; clear hK K | refine Op1.callp rfl rfl (a9) rfl ?_; refine hK _ _ ?_; clear hK K | refine Op1.callp rfl rfl (b1) rfl ?_; refine hK _ _ ?_; clear hK K | refine Op1.callp rfl rfl (b2) rfl ?_; refine hK _ _ ?_; clear hK K | refine Op1.callp rfl rfl (b3) rfl ?_; refine hK _ _ ?_; clear hK K) | refine st rfl ?_ | refine nl ?_ | refine gs rfl rfl ?_ | exact ret1 T (List.nil_sublist _) ⟨rfl, rfl⟩
end Go.Proofs.Ytfifcjgcajpnoaa
