/- law16: what must come of fixed calls. No condition. -/
import Derived.Test.YtomcmfbpmkklmaaGreatDq
import Derived.Test.YtomcmfbpmkklmaaGreatDg
namespace Go.Proofs.YtomcmfbpmkklmaaGreat
set_option maxHeartbeats 16000000
set_option linter.unusedSimpArgs false
set_option linter.unusedVariables false
set_option maxRecDepth 20000
open Go Go.Proofs Go.Vc
attribute [local irreducible] retQ VCg VCw VCx
def U16 : Un := ⟨4, [0], [0], [[⟨4, 0, 0, one1, [], false, 0⟩, ⟨22, 0, 0, [], [], false, 0⟩]]⟩
theorem unit16_ok : Pure Tryz.prog 59 [] (.agg (unC U16)) := by
 refine Pure.wk (d := .agg [iD 4, .sl true 1 [[iD 0]], .sl true 1 [[iD 0]], .sl true 1 [[.sl true 7 [[iD 4, iD 0, iD 0, opT, .gs none 0, bD false, iD 0], [iD 22, iD 0, iD 0, .gs none 0, .gs none 0, bD false, iD 0]]]]]) ?_ ?_
 ·refine Fun.of T [.cell 0 25] Tryz.func59 rfl Tryz.ntmps59 Tryz.results59 rfl (by kernel_rfl) ?_
  repeat' first | refine vs T rfl fun K hK => ?_; (try simp (disch := omega) only [go_sem, Nat.reduceBEq, Nat.reduceAdd, Nat.reduceMul, Nat.reduceLeDiff]); (first | refine hK _ _ ?_; clear hK K | intro bq hbq; (try simp only [HB] at hbq); refine hK _ _ ?_; clear hK K) | refine st rfl ?_ | refine nl ?_ | exact retc T rfl (by (simp (disch := omega) only [hget_eq]) <;> rfl) rfl rfl rfl (List.nil_sublist _) ⟨rfl, rfl⟩
  all_goals rfl
 ·refine wk_agg ?_
  repeat' first | exact wk_is | exact wk_nil | exact wk_end | exact wkr_end | apply wk_sl | apply wk_cons | apply wkr_cons
theorem okU16 : OkU U16 := okU_light (by kernel_rfl)
def c16a : Cf := ⟨[0], [[]], [0], [[]]⟩
def c16b : Cf := ⟨[1], [[]], [0], [[(0, 1)]]⟩
def c16c : Cf := ⟨[1], [[]], [1], [[]]⟩
def C16 : List Cf := [c16a, c16b, c16c]
def g16 : Cs := ⟨[0, 1, 2, 2], [0, 1], [1, 2]⟩
def G16 : Cs := ⟨[0, 2, 3, 3], [5, 7, 6], [1, 2, 2]⟩
theorem spR16 : spR U16 2 1 9 = spC C16 g16 [-1, 0, 1] [-1, 0, 1] := by kernel_rfl
theorem okG16 : OkG G16 := ⟨by decide, by decide, by decide⟩
theorem rG16 : rightG G16 = true := by kernel_rfl
theorem toOk16 : ToOk C16.length [-1, 0, 1] [-1, 0, 1] := ⟨by decide, rfl, rfl, fun j h1 h2 => by
 have : j = 1 ∨ j = 2 := by simp only [C16, List.length_cons, List.length_nil] at h2; omega
 rcases this with rfl | rfl <;> decide⟩
abbrev t0f0 : ByteArray := ⟨#[116, 48, 32, 102, 48]⟩
abbrev t0ff0 : ByteArray := ⟨#[116, 48, 32, 32, 102, 48]⟩
abbrev t0f0q : ByteArray := ⟨#[116, 48, 32, 102, 48, 32, 63]⟩
theorem known16_ok : Pure Tryz.prog 15 [] (bD true) := by
 have cu := unit16_ok
 have cs : Pure Tryz.prog 16 [.agg (unC U16), iD 2, iD 1, iD 9] (.tup [.agg (spC C16 g16 [-1, 0, 1] [-1, 0, 1]), iD 0]) := by
  have := rall_in U16 okU16 2 1 9 (by kernel_rfl) (by kernel_rfl) (by decide)
  rwa [spR16, show errS U16 2 1 9 = 0 from by kernel_rfl] at this
 have cr : Pure Tryz.prog 20 [.agg (unC U16), iD 2, iD 1, .sl true 1 [[iD 0], [iD 1]]] (.tup [.agg (cfC c16c), iD 2, iD 0]) := by
  have := replay_ok U16 okU16 2 1 [0, 1] (by decide)
  rw [show repF U16 2 1 [0, 1] = (c16c, 2, 0) from by kernel_rfl] at this
  exact Fun.argsW this (fz_cons (Fz.refl _ _) (fz_cons (Fz.refl _ _) (fz_cons (Fz.refl _ _) (fz_cons fz_sl fz_end))))
 have cr2 : Pure Tryz.prog 20 [.agg (unC U16), iD 2, iD 1, .sl true 1 [[iD 0], [iD 0]]] (.tup [.agg (cfC c16b), iD 1, iD 16]) := by
  have := replay_ok U16 okU16 2 1 [0, 0] (by decide)
  rw [show repF U16 2 1 [0, 0] = (c16b, 1, 16) from by kernel_rfl] at this
  exact Fun.argsW this (fz_cons (Fz.refl _ _) (fz_cons (Fz.refl _ _) (fz_cons (Fz.refl _ _) (fz_cons fz_sl fz_end))))
 have cb : Pure Tryz.prog 60 [iD 3, .sl true 3 [[iD 0, iD 5, iD 1], [iD 1, iD 6, iD 2], [iD 0, iD 7, iD 2]]] (.tup [.agg (csC G16), iD 0]) := by
  have := build14_ok 3 [(0, 5, 1), (1, 6, 2), (0, 7, 2)] (by decide)
  rw [show buildR 3 [(0, 5, 1), (1, 6, 2), (0, 7, 2)] = (G16, 0) from by kernel_rfl] at this
  exact Fun.argsW this (fz_cons (Fz.refl _ _) (fz_cons fz_sl fz_end))
 have i1 : Pure Tryz.prog 25 [.agg (csC G16), iD 0, iD 2, .sl true 1 [[bD true], [bD true], [bD true]]] (.tup [ints [7], bD true]) := by
  have := inside_ok G16 okG16 rG16 0 2 [true, true, true] (by decide)
  rw [show insI G16 0 2 [true, true, true] = some [7] from by kernel_rfl] at this
  exact Fun.argsW this (fz_cons (Fz.refl _ _) (fz_cons (Fz.refl _ _) (fz_cons (Fz.refl _ _) (fz_cons fz_sl fz_end))))
 have i2 : Pure Tryz.prog 25 [.agg (csC G16), iD 2, iD 0, .sl true 1 [[bD true], [bD true], [bD true]]] (.tup [ints [], bD false]) := by
  have := inside_ok G16 okG16 rG16 2 0 [true, true, true] (by decide)
  rw [show insI G16 2 0 [true, true, true] = none from by kernel_rfl] at this
  exact Fun.argsW this (fz_cons (Fz.refl _ _) (fz_cons (Fz.refl _ _) (fz_cons (Fz.refl _ _) (fz_cons fz_sl fz_end))))
 have p1 : Pure Tryz.prog 33 [.agg (unC U16), iD 2, sD t0f0] (.tup [ints [0, 1], iD 0]) := by
  have := parse_ok16 U16 okU16 2 t0f0 (by decide)
  rwa [show parF U16 2 t0f0 = some [0, 1] from by kernel_rfl] at this
 have p2 : Pure Tryz.prog 33 [.agg (unC U16), iD 2, sD t0ff0] (.tup [ints [], iD 8]) := by
  have := parse_ok16 U16 okU16 2 t0ff0 (by decide)
  rwa [show parF U16 2 t0ff0 = none from by kernel_rfl] at this
 have ct : Pure Tryz.prog 18 [.agg (spC C16 g16 [-1, 0, 1] [-1, 0, 1]), iD 2] (ints [0, 1]) := by
  have := to_ok C16 g16 [-1, 0, 1] [-1, 0, 1] toOk16 2
  rwa [show toI C16.length [-1, 0, 1] [-1, 0, 1] 2 = [0, 1] from by kernel_rfl] at this
 have f1 : Pure Tryz.prog 22 [.agg (csC G16), iD 0, .sl true 1 [[iD 5], [iD 6]]] (iD 2) := by
  have := follow_ok G16 okG16 0 [5, 6] (by decide)
  rw [show followF G16 0 [5, 6] = 2 from by kernel_rfl] at this
  exact Fun.argsW this (fz_cons (Fz.refl _ _) (fz_cons (Fz.refl _ _) (fz_cons fz_sl fz_end)))
 have f2 : Pure Tryz.prog 22 [.agg (csC G16), iD 0, .sl true 1 [[iD 6]]] (iD (-1)) := by
  have := follow_ok G16 okG16 0 [6] (by decide)
  rw [show followF G16 0 [6] = -1 from by kernel_rfl] at this
  exact Fun.argsW this (fz_cons (Fz.refl _ _) (fz_cons (Fz.refl _ _) (fz_cons fz_sl fz_end)))
 have x1 : Pure Tryz.prog 32 [.agg (unC U16), iD 2, .sl true 1 [[iD 0], [iD 1], [iD 9]]] (sD t0f0q) := by
  have := text_ok U16 okU16 2 [0, 1, 9] (by decide)
  rw [show txtK U16 2 [0, 1, 9] ([0, 1, 9] : List Int).length = t0f0q from by kernel_rfl] at this
  exact Fun.argsW this (fz_cons (Fz.refl _ _) (fz_cons (Fz.refl _ _) (fz_cons fz_sl fz_end)))
 have j1 : Pure Tryz.prog 17 [ints [0, 1], .sl true 1 [[iD 0], [iD 1]]] (bD true) := by
  have := ints_ok [0, 1] [0, 1] (by decide) (by decide)
  rw [decide_eq_true rfl] at this
  exact Fun.argsW this (fz_cons (Fz.refl _ _) (fz_cons fz_sl fz_end))
 have j2 : Pure Tryz.prog 17 [ints [7], .sl true 1 [[iD 7]]] (bD true) := by
  have := ints_ok [7] [7] (by decide) (by decide)
  rw [decide_eq_true rfl] at this
  exact Fun.argsW this (fz_cons (Fz.refl _ _) (fz_cons fz_sl fz_end))
 have rm : (iRs c16c.mem)[0]? = some [iD 1] := rfl
 have lm : (iRs c16c.mem).length = 1 := rfl
 refine Fun.of T [.tmp 0] Tryz.func15 rfl Tryz.ntmps15 Tryz.results15 rfl (by kernel_rfl) ?_
 repeat' first | refine vs T rfl fun K hK => ?_; (try simp (disch := omega) only [go_sem, Nat.reduceBEq, Nat.reduceAdd, Nat.reduceMul, Nat.reduceLeDiff, rm, lm, Int.toNat_zero, beq_self_eq_true, Bool.not_false]); (first | refine hK _ _ ?_; clear hK K | intro bq hbq; (try simp only [HB] at hbq); refine hK _ _ ?_; clear hK K | refine ⟨?_, hK _ _ ?_⟩ <;> clear hK K; focus (try omega) | refine Op1.callp rfl rfl (cu) rfl ?_; refine hK _ _ ?_; clear hK K | refine Op1.callp rfl rfl (cs) rfl ?_; refine hK _ _ ?_; clear hK K | refine Op1.callp rfl rfl (cr) rfl ?_; refine hK _ _ ?_; clear hK K | refine Op1.callp rfl rfl (cr2) rfl ?_; refine hK _ _ ?_; clear hK K | refine Op1.callp rfl rfl (cb) rfl ?_; refine hK _ _ ?_; clear hK K | refine Op1.callp rfl rfl (i1) rfl ?_; refine hK _ _ ?_; clear hK K | refine Op1.callp rfl rfl (i2) rfl ?_; refine hK _ _ ?_; clear hK K | refine Op1.callp rfl rfl (p1) rfl ?_; refine hK _ _ ?_; clear hK K | refine Op1.callp rfl rfl (p2) rfl ?_; refine hK _ _ ?_; clear hK K | refine Op1.callp rfl rfl (ct) rfl ?_; refine hK _ _ ?_; clear hK K | refine Op1.callp rfl rfl (f1) rfl ?_; refine hK _ _ ?_; clear hK K | refine Op1.callp rfl rfl (f2) rfl ?_; refine hK _ _ ?_; clear hK K | refine Op1.callp rfl rfl (x1) rfl ?_; refine hK _ _ ?_; clear hK K | refine Op1.callp rfl rfl (j1) rfl ?_; refine hK _ _ ?_; clear hK K | refine Op1.callp rfl rfl (j2) rfl ?_; refine hK _ _ ?_; clear hK K) | refine st rfl ?_ | refine nl ?_ | refine gs rfl rfl ?_ | exact ret1 T (List.nil_sublist _) ⟨rfl, rfl⟩
end Go.Proofs.YtomcmfbpmkklmaaGreat
