/- law29: what must come of fixed calls. No condition. -/
import Derived.Test.YtomcmfbpmkklmaaGreatFl
import Derived.Test.YtomcmfbpmkklmaaGreatFd
import Derived.Test.YtomcmfbpmkklmaaGreatXg
namespace Go.Proofs.YtomcmfbpmkklmaaGreat
set_option maxHeartbeats 16000000
set_option linter.unusedSimpArgs false
set_option linter.unusedVariables false
set_option maxRecDepth 20000
open Go Go.Proofs Go.Vc
attribute [local irreducible] retQ VCg VCw VCx
theorem RelL.wk29 {w : World} {L : Nat → Prop} : ∀ (l' l : List D) (vs : List Value), WkL l' l → RelL w L l vs → RelL w L l' vs
 | [], l, vs, h, r => by rw [WkL] at h; subst h; exact r
 | d' :: ds', l, vs, h, r => by
  obtain ⟨d, ds, rfl, h1, h2⟩ := h
  obtain ⟨v, vs', rfl, r1, r2⟩ := r
  exact ⟨v, vs', rfl, Rel.wk _ _ _ h1 r1, RelL.wk29 _ _ _ h2 r2⟩
theorem Fun.args29 {P : Program} {f : FuncId} {args args' : List D} {d : D} (h : Pure P f args' d) (hf : WkL args' args) : Pure P f args d :=
 ⟨h.1, fun w L0 vs hi hr => h.2 w L0 vs hi (RelL.wk29 _ _ _ hf hr)⟩
def U29 : Un := ⟨4, [0], [1], [[⟨4, 0, 0, one1, [], false, 0⟩, ⟨22, 0, 0, [], [], false, 0⟩]]⟩
theorem unit29_ok : Pure Tryz.prog 105 [] (.agg (unC U29)) := by
 refine Pure.wk (d := .agg [iD 4, .sl true 1 [[iD 0]], .sl true 1 [[iD 1]], .sl true 1 [[.sl true 7 [[iD 4, iD 0, iD 0, opT, .gs none 0, bD false, iD 0], [iD 22, iD 0, iD 0, .gs none 0, .gs none 0, bD false, iD 0]]]]]) ?_ ?_
 ·refine Fun.of T [.cell 0 25] Tryz.func105 rfl Tryz.ntmps105 Tryz.results105 rfl (by kernel_rfl) ?_
  repeat' first | refine vs T rfl fun K hK => ?_; (try simp (disch := omega) only [go_sem, Nat.reduceBEq, Nat.reduceAdd, Nat.reduceMul, Nat.reduceLeDiff]); (first | refine hK _ _ ?_; clear hK K | intro bq hbq; (try simp only [HB] at hbq); refine hK _ _ ?_; clear hK K) | refine st rfl ?_ | refine nl ?_ | exact retc T rfl (by (simp (disch := omega) only [hget_eq]) <;> rfl) rfl rfl rfl (List.nil_sublist _) ⟨rfl, rfl⟩
  all_goals rfl
 ·refine wk_agg ?_
  repeat' first | exact wk_is | exact wk_nil | exact wk_end | exact wkr_end | apply wk_sl | apply wk_cons | apply wkr_cons
theorem okU29 : OkU U29 := okU_light (by kernel_rfl)
def C29 : Cf := ⟨[1, 0], [[3], []], [0], [[(0, 1)], []]⟩
abbrev c29D : List D := [.sl true 1 [[iD 1], [iD 0]], .sl true 1 [[.sl true 1 [[iD 3]]], [.gs none 0]], .sl true 1 [[iD 0]], .sl true 1 [[.sl true 2 [[iD 0, iD 1]]], [.gs none 0]]]
theorem wk_C29 : Wk (.agg (cfC C29)) (.agg c29D) := by
 refine wk_agg ?_
 repeat' first | exact wk_is | exact wk_nil | exact wk_end | exact wkr_end | apply wk_sl | apply wk_cons | apply wkr_cons
theorem wk_c0 : Wk (.agg (cfC cf0)) (.agg [.gs none 0, .gs none 0, .gs none 0, .gs none 0]) := by
 refine wk_agg ?_
 repeat' first | exact wk_nil | exact wk_end | apply wk_cons
theorem wk_cf (c : Cf) : Wk (.agg (cfC c)) (.agg (cfC c)) := wk_agg (wk_cons (.inl rfl) (wk_cons (.inl rfl) (wk_cons (.inl rfl) (wk_cons (.inl rfl) wk_end))))
theorem okC29 : OkC C29 := ⟨by decide, by decide, by decide, by decide, by decide, by decide⟩
theorem okC0 : OkC cf0 := ⟨by decide, by decide, by decide, by decide, by decide, by decide⟩
def s29a : By := [116, 48, 58, 49, 32, 51, 32, 48, 61, 49, 59, 32, 116, 49, 58, 48, 59, 32, 109, 58, 32, 48]
def s29b : By := [116, 48, 58, 48, 49, 59, 32, 109, 58]
theorem par29a : parT s29a = some C29 := by kernel_rfl
theorem par29b : parT s29b = none := by kernel_rfl
theorem show29 : showF C29 = s29a := by kernel_rfl
theorem tell29a : tellF U29 2 1 [0, 1] = (⟨#[116, 48, 58, 48, 32, 48, 59, 32, 109, 58, 32, 48, 10, 116, 48, 32, 45, 62, 32, 116, 48, 58, 49, 32, 48, 32, 48, 61, 49, 59, 32, 109, 58, 32, 48, 10, 102, 48, 32, 45, 62, 32, 116, 48, 58, 49, 32, 48, 59, 32, 109, 58, 32, 49, 10]⟩, 0) := by kernel_rfl
theorem tell29b : tellF U29 2 1 [1] = (⟨#[116, 48, 58, 48, 32, 48, 59, 32, 109, 58, 32, 48, 10]⟩, 16) := by kernel_rfl
theorem known29_ok : Pure Tryz.prog 54 [] (bD true) := by
 have cu := unit29_ok
 have c1 : Pure Tryz.prog 104 [sD (tx s29a)] (.tup [.agg (cfC C29), bD true]) := by
  have := parse29_ok s29a (by decide)
  rwa [show parC s29a = C29 by rw [parC, par29a]; rfl, show parB s29a = true by rw [parB, par29a]; rfl] at this
 have c2 : Pure Tryz.prog 104 [sD (tx s29b)] (.tup [.agg (cfC cf0), bD false]) := by
  have := parse29_ok s29b (by decide)
  rwa [show parC s29b = cf0 by rw [parC, par29b]; rfl, show parB s29b = false by rw [parB, par29b]; rfl] at this
 have c3 : Pure Tryz.prog 55 [.agg (unC U29), iD 2, iD 1, .sl true 1 [[iD 0], [iD 1]]] _ := Fun.argsW (tell29_ok U29 okU29 2 1 [0, 1] (by decide)) (fz_cons (Fz.refl _ _) (fz_cons (Fz.refl _ _) (fz_cons (Fz.refl _ _) (fz_cons fz_sl fz_end))))
 have c4 : Pure Tryz.prog 55 [.agg (unC U29), iD 2, iD 1, .sl true 1 [[iD 1]]] _ := Fun.argsW (tell29_ok U29 okU29 2 1 [1] (by decide)) (fz_cons (Fz.refl _ _) (fz_cons (Fz.refl _ _) (fz_cons (Fz.refl _ _) (fz_cons fz_sl fz_end))))
 rw [tell29a] at c3
 rw [tell29b] at c4
 have c5 : Pure Tryz.prog 106 [.agg c29D] _ := Fun.args29 (show29_ok C29 okC29) (wk_cons wk_C29 wk_end)
 rw [show29] at c5
 have c6 : Pure Tryz.prog 21 [.agg c29D, .agg (cfC C29)] _ := Fun.args29 (rsame_ok C29 C29 okC29 okC29) (wk_cons wk_C29 (wk_cons (wk_cf C29) wk_end))
 rw [show sameC C29 C29 = true from by kernel_rfl] at c6
 have c7 : Pure Tryz.prog 58 [.agg c29D, .agg c29D] _ := Fun.args29 (changes_ok C29 C29 okC29 okC29) (wk_cons wk_C29 (wk_cons wk_C29 wk_end))
 rw [show chgF C29 C29 = 0 from by kernel_rfl] at c7
 have c8 : Pure Tryz.prog 58 [.agg c29D, .agg [.gs none 0, .gs none 0, .gs none 0, .gs none 0]] _ := Fun.args29 (changes_ok C29 cf0 okC29 okC0) (wk_cons wk_C29 (wk_cons wk_c0 wk_end))
 rw [show chgF C29 cf0 = 5 from by kernel_rfl] at c8
 refine Fun.of T [.tmp 0] Tryz.func54 rfl Tryz.ntmps54 Tryz.results54 rfl (by kernel_rfl) ?_
 repeat' first | refine vs T rfl fun K hK => ?_; (try simp (disch := omega) only [go_sem, Nat.reduceBEq, Nat.reduceAdd, Nat.reduceMul, Nat.reduceLeDiff, Bool.not_false]); (first | refine hK _ _ ?_; clear hK K | intro bq hbq; (try simp only [HB] at hbq); refine hK _ _ ?_; clear hK K | refine Op1.callp rfl rfl (cu) rfl ?_; refine hK _ _ ?_; clear hK K | refine Op1.callp rfl rfl (c1) rfl ?_; refine hK _ _ ?_; clear hK K | refine Op1.callp rfl rfl (c2) rfl ?_; refine hK _ _ ?_; clear hK K | refine Op1.callp rfl rfl (c3) rfl ?_; refine hK _ _ ?_; clear hK K | refine Op1.callp rfl rfl (c4) rfl ?_; refine hK _ _ ?_; clear hK K | refine Op1.callp rfl rfl (c5) rfl ?_; refine hK _ _ ?_; clear hK K | refine Op1.callp rfl rfl (c6) rfl ?_; refine hK _ _ ?_; clear hK K | refine Op1.callp rfl rfl (c7) rfl ?_; refine hK _ _ ?_; clear hK K | refine Op1.callp rfl rfl (c8) rfl ?_; refine hK _ _ ?_; clear hK K) | refine st rfl ?_ | refine nl ?_ | refine gs rfl rfl ?_ | exact ret1 T (List.nil_sublist _) ⟨rfl, rfl⟩
end Go.Proofs.YtomcmfbpmkklmaaGreat
